/- Layer 37: what is put is read, and nothing else. -/
/- Layer 37: the laws' fixed facts (awake), walked. -/
import Derived.Test.YtdkkomcokefkhaaDoorRcO
import Derived.Test.YtdkkomcokefkhaaDoorRcT
import Derived.Test.YtdkkomcokefkhaaDoorRcK
namespace Go.Proofs.YtdkkomcokefkhaaDoor
open Go.RowKit

theorem run_ex (l : List UInt32) : ∃ a d f n ps m ds st, Run l a d f n ps m ds st :=
  ⟨_, _, _, _, _, _, _, _, ⟨_, _, _, _, _, _, rfl, rfl, rfl, rfl, rfl, rfl, rfl⟩⟩
theorem mk4_inj {I J : Nat → UInt32} (h : mk4 (I 0) (I 1) (I 2) (I 3) = mk4 (J 0) (J 1) (J 2) (J 3)) : eqD I J = true :=
  decide_eq_true ⟨congrFun h 0, congrFun h 1, congrFun h 2, congrFun h 3⟩
theorem words_inj {t t' f f' : Int} {I I' : Nat → UInt32} {ps ps' : List Int} {ds ds' : List (Nat → UInt32)} (hr : rightR t I ps ds.length f = true) (hr' : rightR t' I' ps' ds'.length f' = true) (h : wordsR t I ps ds f = wordsR t' I' ps' ds' f') : sameR t t' I I' f f' ps ps' ds ds' = true := by
  obtain ⟨a, d, g, n, qs, m, es, st, hR⟩ := run_ex (wordsR t I ps ds f)
  obtain ⟨_, h2, h3, h4, h5, h6⟩ := run_ok hr hR
  rw [h] at hR
  obtain ⟨_, k2, k3, k4, k5, k6⟩ := run_ok hr' hR
  obtain ⟨⟨t1, t6⟩, ⟨f0, f8⟩, _⟩ := rr_in hr
  obtain ⟨⟨t1', t6'⟩, ⟨f0', f8'⟩, _⟩ := rr_in hr'
  have et : t = t' := by rw [← wI_val (x := t) (by omega) (by omega), ← wI_val (x := t') (by omega) (by omega), ← h2, ← k2]
  have ef : f = f' := by rw [← wI_val (x := f) (by omega) (by omega), ← wI_val (x := f') (by omega) (by omega), ← h4, ← k4]
  have eI : eqD I I' = true := mk4_inj (h3.symm.trans k3)
  have ep : ps = ps' := h5.symm.trans k5
  have ed : eqDs ds ds' = true := by
    have e := h6.symm.trans k6
    have el : ds.length = ds'.length := by simpa using congrArg List.length e
    refine decide_eq_true ⟨el, fun j h h' => mk4_inj ?_⟩
    have e2 := congrArg (fun l => l[j]?) e
    simp only [List.getElem?_map, List.getElem?_eq_getElem h, List.getElem?_eq_getElem h', Option.map_some] at e2
    injection e2
  unfold sameR
  rw [decide_eq_true et, eI, decide_eq_true ef, decide_eq_true ep, ed]
  rfl
theorem eqD_dgL {I J : Nat → UInt32} (h : eqD I J = true) : dgL I = dgL J := by
  obtain ⟨h0, h1, h2, h3⟩ := of_decide_eq_true h
  unfold dgL
  rw [h0, h1, h2, h3]
theorem eqDs_flat : ∀ {ds es : List (Nat → UInt32)}, ds.length = es.length → (∀ j (h : j < ds.length) (h' : j < es.length), eqD ds[j] es[j] = true) → ds.flatMap dgL = es.flatMap dgL
  | [], [], _, _ => rfl
  | d :: ds, e :: es, hl, h => by
    have h0 : eqD d e = true := h 0 (by simp) (by simp)
    rw [List.flatMap_cons, List.flatMap_cons, eqD_dgL h0, eqDs_flat (by simpa using hl) (fun j a b => h (j + 1) (by simpa using a) (by simpa using b))]
theorem words_same {t t' f f' : Int} {I I' : Nat → UInt32} {ps ps' : List Int} {ds ds' : List (Nat → UInt32)} (h : sameR t t' I I' f f' ps ps' ds ds' = true) : wordsR t I ps ds f = wordsR t' I' ps' ds' f' := by
  unfold sameR at h
  simp only [Bool.and_eq_true, decide_eq_true_eq] at h
  obtain ⟨rfl, hI, rfl, rfl, hd⟩ := h
  have hd2 := of_decide_eq_true hd
  unfold wordsR headR
  rw [eqD_dgL hI, eqDs_flat hd2.1 hd2.2, hd2.1]

theorem bytesR_eq {t t' f f' : Int} {I I' : Nat → UInt32} {ps ps' : List Int} {ds ds' : List (Nat → UInt32)} : bytesR t I ps ds f = bytesR t' I' ps' ds' f' ↔ wordsR t I ps ds f = wordsR t' I' ps' ds' f' := by
  constructor
  · intro h
    have h2 := (List.cons.inj h).2
    rw [← words_le (wordsR t I ps ds f), h2, words_le]
  · intro h
    unfold bytesR
    rw [h]

/-- What is read of a recipe's bytes. -/
theorem recipe_Read_good (s : ByteArray) (t : Int) (I : Nat → UInt32) (ps : List Int) (ds : List (Nat → UInt32)) (f : Int) (w : World) (hs : s.data.toList = bytesR t I ps ds f) (hr : rightR t I ps ds.length f = true) :
    Calls Tryd.prog 15 #[.string s] w fun r W' => (∃ (t' : Int) (I' : Nat → UInt32) (ps' : List Int) (ds' : List (Nat → UInt32)) (f' : Int) (A B : Option Addr) (c e : Nat), r = .returned (.tuple #[.agg #[.int .i64 t', .int .u32 (I' 0).toNat, .int .u32 (I' 1).toNat, .int .u32 (I' 2).toNat, .int .u32 (I' 3).toNat, .slice A ps'.length c, .slice B ds'.length e, .int .i64 f'], .int .i64 0]) ∧
      Hid (sameR t' t I' I f' f ps' ps ds' ds = true) ∧ Hid (rightR t' I' ps' ds'.length f' = true) ∧ Sl W' W'.heap.size A ps'.length (ps'.map iv) ∧ Sd W' W'.heap.size B ds') ∧ Below w.heap.size w W' := by
  obtain ⟨_, _, hp, _, hm⟩ := rr_in hr
  have hl : s.data.toList.length = s.size := rfl
  have hz : s.size = 1 + 4 * (8 + ps.length + 4 * ds.length) := by
    rw [← hl, hs]
    unfold bytesR
    rw [List.length_cons, leBytes_length, wordsR_len]
    omega
  have h2 : s.data.toList.take 1 = [82] := by rw [hs]; rfl
  have h3 : wordsL (s.data.toList.drop 1) = wordsR t I ps ds f := by
    rw [hs]
    exact words_le _
  refine (recipe_Read_any s _ w (by omega) h2 (by omega) (by omega) h3).mono ?_
  rintro r W' ⟨⟨t', I', ps', ds', f', A, B, c, e, rfl, k1, k2, k3, k4⟩ | ⟨_, k⟩, hb⟩
  · exact ⟨⟨t', I', ps', ds', f', A, B, c, e, rfl, words_inj k2 hr k1, k2, k3, k4⟩, hb⟩
  · exact absurd rfl (k t I ps ds f hr)
/-- What is no recipe's bytes is refused. -/
theorem recipe_Read_bad (s : ByteArray) (w : World) (hs : s.size ≤ 1000000) (h : ∀ (t : Int) (I : Nat → UInt32) (ps : List Int) (ds : List (Nat → UInt32)) (f : Int), rightR t I ps ds.length f = true → s.data.toList ≠ bytesR t I ps ds f) :
    Calls Tryd.prog 15 #[.string s] w fun e W' => e = .returned (.tuple #[.agg zrec, .int .i64 7]) ∧ Below w.heap.size w W' := by
  by_cases h1 : s.size < 1
  · exact recipe_Read_bad0 s w (.inl h1) (by omega)
  by_cases h2 : s.data.toList.take 1 = [82]
  · by_cases h4 : (s.size - 1) % 4 = 0
    · refine (recipe_Read_any s _ w (by omega) h2 h4 hs rfl).mono ?_
      rintro r W' ⟨⟨t', I', ps', ds', f', A, B, c, e, rfl, k1, k2, k3, k4⟩ | ⟨k, _⟩, hb⟩
      · refine absurd ?_ (h t' I' ps' ds' f' k2)
        unfold bytesR
        rw [k1, le_words _ ((s.size - 1) / 4) (by rw [List.length_drop]; show s.size - 1 = _; omega)]
        rw [← List.take_append_drop 1 s.data.toList, h2]
        rfl
      · exact ⟨k, hb⟩
    · exact recipe_Read_bad1 s w (by omega) h2 h4 (by omega)
  · exact recipe_Read_bad0 s w (.inr ⟨by omega, h2⟩) (by omega)
end Go.Proofs.YtdkkomcokefkhaaDoor
namespace Go.Proofs.YtdkkomcokefkhaaDoor
open Go.RowKit

def awD : Nat → UInt32 := mk4 1 2 3 4
def awL : List UInt8 := bytesR 2 (fun _ => 0) [] [awD] 0
theorem aw_right : rightR 2 (fun _ => 0) [] [awD].length 0 = true := by decide
theorem aw_Put (b : Nat) (w : World) (hd : Sd w w.heap.size (some ⟨b, 0, none⟩) [awD]) :
    Calls Tryd.prog 11 #[.agg #[.int .i64 2, .int .u32 0, .int .u32 0, .int .u32 0, .int .u32 0, .slice none 0 0, .slice (some ⟨b, 0, none⟩) 1 1, .int .i64 0]] w fun r w' => (∃ s, r = .returned (.tuple #[.string s, .int .i64 0]) ∧ Hid (s.data.toList = awL)) ∧ Below w.heap.size w w' :=
  recipe_Put 2 (fun _ => 0) none (some ⟨b, 0, none⟩) [] [awD] 0 1 0 w Sl.nil hd aw_right
theorem aw_Put0 (w : World) :
    Calls Tryd.prog 11 #[.agg #[.int .i64 0, .int .u32 0, .int .u32 0, .int .u32 0, .int .u32 0, .slice none 0 0, .slice none 0 0, .int .i64 0]] w fun r w' => r = .returned (.tuple #[.string ⟨#[]⟩, .int .i64 1]) ∧ Below w.heap.size w w' :=
  recipe_Put_bad 0 (fun _ => 0) none none [] 0 0 0 0 w Sl.nil (by decide) (by decide) (by decide)
theorem aw_Of (w : World) :
    Calls Tryd.prog 13 #[.agg #[.int .i64 7, .int .u32 0, .int .u32 0, .int .u32 0, .int .u32 0, .slice none 0 0, .slice none 0 0, .int .i64 0]] w fun r w' => r = .returned (.tuple #[.agg #[.int .u32 0, .int .u32 0, .int .u32 0, .int .u32 0], .int .i64 1]) ∧ Below w.heap.size w w' :=
  recipe_Of_bad 7 (fun _ => 0) none none [] 0 0 0 0 w Sl.nil (by decide) (by decide) (by decide)
theorem aw_Right (b : Nat) (w : World) :
    Calls Tryd.prog 21 #[.agg #[.int .i64 2, .int .u32 0, .int .u32 0, .int .u32 0, .int .u32 0, .slice none 0 0, .slice (some ⟨b, 0, none⟩) 1 1, .int .i64 0]] w fun r w' => r = .returned (.bool true) ∧ Below w.heap.size w w' :=
  recipe_Right 2 (fun _ => 0) none (some ⟨b, 0, none⟩) [] 0 1 1 0 w Sl.nil (by decide) (by decide)
theorem aw_Same (t : Int) (I : Nat → UInt32) (ps : List Int) (ds : List (Nat → UInt32)) (f : Int) (A B : Option Addr) (c e b : Nat) (w : World) (h : sameR t 2 I (fun _ => 0) f 0 ps [] ds [awD] = true) (hs : Sl w w.heap.size A ps.length (ps.map iv)) (hd : Sd w w.heap.size B ds) (hd' : Sd w w.heap.size (some ⟨b, 0, none⟩) [awD]) (hn : ps.length ≤ 1000000000) (hm : ds.length ≤ 1000000000) :
    Calls Tryd.prog 16 #[.agg #[.int .i64 t, .int .u32 (I 0).toNat, .int .u32 (I 1).toNat, .int .u32 (I 2).toNat, .int .u32 (I 3).toNat, .slice A ps.length c, .slice B ds.length e, .int .i64 f], .agg #[.int .i64 2, .int .u32 0, .int .u32 0, .int .u32 0, .int .u32 0, .slice none 0 0, .slice (some ⟨b, 0, none⟩) 1 1, .int .i64 0]] w fun r w' => r = .returned (.bool true) ∧ Below w.heap.size w w' := by
  have k := refR_Same t 2 I (fun _ => 0) A B none (some ⟨b, 0, none⟩) ps [] ds [awD] c e 0 1 f 0 w hs Sl.nil hd hd' hn hm
  rw [h] at k
  exact k
theorem aw_Read_bad (s : ByteArray) (w : World) (hs : s.data.toList = awL ++ [120]) :
    Calls Tryd.prog 15 #[.string s] w fun e W' => e = .returned (.tuple #[.agg #[.int .i64 0, .int .u32 0, .int .u32 0, .int .u32 0, .int .u32 0, .slice none 0 0, .slice none 0 0, .int .i64 0], .int .i64 7]) ∧ Below w.heap.size w W' := by
  have hl : s.data.toList.length = s.size := rfl
  have hz : s.size = 50 := by
    rw [← hl, hs]
    unfold awL bytesR
    rw [List.length_append, List.length_cons, leBytes_length, wordsR_len]
    rfl
  refine recipe_Read_bad s w (by omega) (fun t I ps ds f hr e => ?_)
  have e2 := congrArg List.length e
  unfold bytesR at e2
  rw [List.length_cons, leBytes_length, wordsR_len, hl, hz] at e2
  omega

theorem aw_words : wordsR 2 (fun _ => 0) [] [awD] 0 = [2, 0, 0, 0, 0, 0, 0, 1, 1, 2, 3, 4] := by decide
theorem aw_Bytes (W : World) (g : Nat) (hg : g = W.heap.size) :
    Calls Tryd.prog 23 #[.slice (some ⟨g, 0, none⟩) 12 12] (W.alloc (.cells #[.int .u32 2, .int .u32 0, .int .u32 0, .int .u32 0, .int .u32 0, .int .u32 0, .int .u32 0, .int .u32 1, .int .u32 1, .int .u32 2, .int .u32 3, .int .u32 4] 22)) fun r w' => (∃ s, r = .returned (.string s) ∧ Hid (awL = 82 :: s.data.toList)) ∧ Below W.heap.size W w' := by
  have k := word_Bytes [2, 0, 0, 0, 0, 0, 0, 1, 1, 2, 3, 4] (some ⟨g, 0, none⟩) 12 12 (W.alloc (.cells #[.int .u32 2, .int .u32 0, .int .u32 0, .int .u32 0, .int .u32 0, .int .u32 0, .int .u32 0, .int .u32 1, .int .u32 1, .int .u32 2, .int .u32 3, .int .u32 4] 22)) (sl_words hg rfl) (by decide)
  refine k.mono ?_
  rintro e w' ⟨⟨s, rfl, hs⟩, hb⟩
  refine ⟨⟨s, rfl, ?_⟩, below_new hb⟩
  unfold Hid awL bytesR
  rw [hs.out, aw_words]

/-- The example's blocks. -/
structure Ak (w W : World) : Prop where
  d : Blk W w.heap.size 24 #[.int .u32 1, .int .u32 2, .int .u32 3, .int .u32 4]
  r : Blk W (w.heap.size + 1) 28 #[.int .i64 2, .int .u32 0, .int .u32 0, .int .u32 0, .int .u32 0, .slice none 0 0, .slice (some ⟨w.heap.size, 0, none⟩) 1 1, .int .i64 0]
  bel : Below w.heap.size w W
theorem Ak.below {w W W' : World} (h : Ak w W) (hb : Below W.heap.size W W') : Ak w W' := ⟨h.d.below hb h.d.lt, h.r.below hb h.r.lt, h.bel.trans (hb.mono h.bel.size)⟩
theorem Ak.alloc {w W : World} (h : Ak w W) (o : Obj) : Ak w (W.alloc o) := h.below ((Below.refl _ W).alloc (Nat.le_refl _) o)
theorem Ak.sd {w W : World} (h : Ak w W) : Sd W W.heap.size (some ⟨w.heap.size, 0, none⟩) [awD] := fun _ => by
  refine ⟨_, _, rfl, h.d.lt, fun j hj i hi => ?_⟩
  obtain rfl : j = 0 := by simpa using hj
  match i, hi with
  | 0, _ => exact h.d.cell 0
  | 1, _ => exact h.d.cell 1
  | 2, _ => exact h.d.cell 2
  | 3, _ => exact h.d.cell 3

set_option maxHeartbeats 4000000 in
theorem awake_any (w : World) : Calls Tryd.prog 9 #[] w fun e w' => e = .returned (.bool true) ∧ Below w.heap.size w w' := by
  go_enter Tryd.func9, Tryd.ntmps9
  go_wp2_with fail
  have h0 : Ak w ((w.alloc (.cells #[.int .u32 1, .int .u32 2, .int .u32 3, .int .u32 4] 24)).alloc (.cells #[.int .i64 2, .int .u32 0, .int .u32 0, .int .u32 0, .int .u32 0, .slice none 0 0, .slice (some ⟨w.heap.size, 0, none⟩) 1 1, .int .i64 0] 28)) := by
    refine ⟨(Blk.new w _ _).alloc _, ?_, ((Below.refl _ w).alloc (Nat.le_refl _) _).alloc (by simp) _⟩
    have h := Blk.new (w.alloc (.cells #[.int .u32 1, .int .u32 2, .int .u32 3, .int .u32 4] 24)) 28 #[.int .i64 2, .int .u32 0, .int .u32 0, .int .u32 0, .int .u32 0, .slice none 0 0, .slice (some ⟨w.heap.size, 0, none⟩) 1 1, .int .i64 0]
    simpa using h
  generalize World.alloc _ _ = W0 at h0 ⊢
  refine (aw_Put _ _ h0.sd).mono ?_
  rintro r w1 ⟨⟨s, rfl, hs⟩, hb1⟩
  have h1 := Lib.hid (h0.below hb1)
  clear h0 hb1
  go_wp2_with fail
  refine (recipe_Read_good s 2 (fun _ => 0) [] [awD] 0 _ hs.out aw_right).mono ?_
  rintro r w2 ⟨⟨t, I, ps, ds, f, A, B, c, e, rfl, hq, hqr, hS, hD⟩, hb2⟩
  have h2 := Lib.hid (h1.out.below hb2)
  obtain ⟨_, _, hps, _, hds⟩ := rr_in hqr.out
  have hQ := Lib.hid (Blk.new w2 28 (recv t I (.slice A ps.length c) (.slice B ds.length e) f))
  have h3 := Lib.hid (h2.out.alloc (.cells (recv t I (.slice A ps.length c) (.slice B ds.length e) f) 28))
  have HS := Lib.hid (hS.below ((Below.refl _ w2).alloc (Nat.le_refl _) (.cells (recv t I (.slice A ps.length c) (.slice B ds.length e) f) 28)))
  have HD := Lib.hid (hD.below ((Below.refl _ w2).alloc (Nat.le_refl _) (.cells (recv t I (.slice A ps.length c) (.slice B ds.length e) f) 28)))
  obtain ⟨Q, hQe⟩ : ∃ Q, Q = w2.heap.size := ⟨_, rfl⟩
  clear hS hD h1 h2 hb2
  go_wp2_with fail
  unfold recv at h3 hQ HS HD
  rw [← hQe] at hQ HS HD ⊢
  generalize World.alloc _ _ = W3 at h3 hQ HS HD ⊢
  clear hQe
  refine (aw_Put0 _).mono ?_
  rintro r w4 ⟨rfl, hb4⟩
  have h4 := Lib.hid (h3.out.below hb4)
  have hQ4 := Lib.hid (hQ.out.below hb4 hQ.out.lt)
  have hq4 : Q < w4.heap.size := hQ4.out.lt
  have HS4 := Lib.hid ((HS.out.below (hb4.mono (Nat.le_of_lt hQ.out.lt))))
  have HD4 := Lib.hid ((HD.out.below (hb4.mono (Nat.le_of_lt hQ.out.lt))))
  have hsz : ¬ 9223372036854775807 < s.size + (⟨#[120]⟩ : ByteArray).size := by
    have e : s.data.toList.length = s.size := rfl
    rw [hs.out] at e
    unfold awL bytesR at e
    rw [List.length_cons, leBytes_length, wordsR_len] at e
    have e2 : ([] : List Int).length = 0 := rfl
    have e3 : [awD].length = 1 := rfl
    have e4 : (⟨#[120]⟩ : ByteArray).size = 1 := rfl
    omega
  clear h3 hQ HS HD hb4
  go_wp2_with fail
  refine (aw_Read_bad _ _ (by rw [ba_append, hs.out])).mono ?_
  rintro r w5 ⟨rfl, hb5⟩
  have h5 := Lib.hid ((h4.out.below hb5).alloc (.cells #[.int .i64 0, .int .u32 0, .int .u32 0, .int .u32 0, .int .u32 0, .slice none 0 0, .slice none 0 0, .int .i64 0] 28))
  have bb := Lib.hid (hb5.alloc hb5.size (.cells #[.int .i64 0, .int .u32 0, .int .u32 0, .int .u32 0, .int .u32 0, .slice none 0 0, .slice none 0 0, .int .i64 0] 28))
  clear hb5 h4
  go_wp2_with fail
  generalize World.alloc _ _ = W5 at h5 bb ⊢
  refine (aw_Of _).mono ?_
  rintro r w6 ⟨rfl, hb6⟩
  have bb6 := bb.out.trans (hb6.mono bb.out.size)
  have h6 := Lib.hid ((h5.out.below hb6).alloc (.cells #[.int .u32 0, .int .u32 0, .int .u32 0, .int .u32 0] 24))
  have bc := Lib.hid (bb6.alloc bb6.size (.cells #[.int .u32 0, .int .u32 0, .int .u32 0, .int .u32 0] 24))
  clear hb6 h5 bb bb6
  go_wp2_with fail
  have hg6 : w6.heap.size + 1 = (w6.alloc (.cells #[.int .u32 0, .int .u32 0, .int .u32 0, .int .u32 0] 24)).heap.size := by simp
  generalize World.alloc w6 _ = W6 at h6 bc hg6 ⊢
  refine (aw_Bytes _ _ hg6).mono ?_
  rintro r w7 ⟨⟨b, rfl, hbb⟩, hb7⟩
  have h7 := Lib.hid (h6.out.below hb7)
  have bd := Lib.hid (bc.out.trans (hb7.mono bc.out.size))
  clear hb7 h6 bc hg6
  have hsb : ¬ 9223372036854775807 < (⟨#[82]⟩ : ByteArray).size + b.size := by
    have e : (82 :: b.data.toList).length = b.size + 1 := rfl
    rw [← hbb.out, ← hs.out] at e
    have e5 : s.data.toList.length = s.size := rfl
    have e6 : (⟨#[82]⟩ : ByteArray).size = 1 := rfl
    have e7 : (⟨#[120]⟩ : ByteArray).size = 1 := rfl
    omega
  have hst : s.toList = ((⟨#[82]⟩ : ByteArray) ++ b).toList := by
    have e : s = (⟨#[82]⟩ : ByteArray) ++ b := ba_inj (by rw [hs.out, hbb.out, ba_append]; rfl)
    rw [e]
  have hQ7 := Lib.hid (hQ4.out.below bd.out hq4)
  have HS7 := Lib.hid (HS4.out.below (bd.out.mono (Nat.le_of_lt hq4)))
  have HD7 := Lib.hid (HD4.out.below (bd.out.mono (Nat.le_of_lt hq4)))
  have hq7 : Q ≤ w7.heap.size := Nat.le_of_lt hQ7.out.lt
  obtain ⟨⟨q0, q1, q2, q3, q4, q5, q6, q7⟩, _⟩ := hQ7.out.all8
  obtain ⟨⟨r0, r1, r2, r3, r4, r5, r6, r7⟩, _⟩ := h7.out.r.all8
  go_wp2_with fail
  refine (aw_Same t I ps ds f A B c e _ _ hq.out (HS7.out.more hq7) (HD7.out.more hq7) h7.out.sd (by omega) (by omega)).mono ?_
  rintro r w8 ⟨rfl, hb8⟩
  have h8 := Lib.hid (h7.out.below hb8)
  clear q0 q1 q2 q3 q4 q5 q6 q7 r0 r1 r2 r3 r4 r5 r6 r7
  obtain ⟨⟨r0, r1, r2, r3, r4, r5, r6, r7⟩, _⟩ := h8.out.r.all8
  go_wp2_with fail
  refine (aw_Right _ _).mono ?_
  rintro r w9 ⟨rfl, hb9⟩
  go_wp2_with fail
  go_returns
  exact ⟨rfl, h8.out.bel.trans (hb9.mono h8.out.bel.size)⟩
end Go.Proofs.YtdkkomcokefkhaaDoor
