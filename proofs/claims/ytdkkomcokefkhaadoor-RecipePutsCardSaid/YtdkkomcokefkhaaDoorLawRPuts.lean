/- The law RecipePuts, walked. -/
import Derived.Test.YtdkkomcokefkhaaDoorRcU
namespace Go.Proofs.YtdkkomcokefkhaaDoor
open Go.RowKit

theorem zero_Same (w : World) :
    Calls Tryd.prog 16 #[.agg #[.int .i64 0, .int .u32 0, .int .u32 0, .int .u32 0, .int .u32 0, .slice none 0 0, .slice none 0 0, .int .i64 0], .agg #[.int .i64 0, .int .u32 0, .int .u32 0, .int .u32 0, .int .u32 0, .slice none 0 0, .slice none 0 0, .int .i64 0]] w fun r w' => r = .returned (.bool true) ∧ Below w.heap.size w w' :=
  refR_Same 0 0 (fun _ => 0) (fun _ => 0) none none none none [] [] [] [] 0 0 0 0 0 0 w Sl.nil Sl.nil (fun h => absurd h (by decide)) (fun h => absurd h (by decide)) (by decide) (by decide)
theorem empty_Read (w : World) :
    Calls Tryd.prog 15 #[.string ⟨#[]⟩] w fun e W' => e = .returned (.tuple #[.agg #[.int .i64 0, .int .u32 0, .int .u32 0, .int .u32 0, .int .u32 0, .slice none 0 0, .slice none 0 0, .int .i64 0], .int .i64 7]) ∧ Below w.heap.size w W' :=
  recipe_Read_bad0 _ w (.inl (by decide)) (by decide)
theorem zero_eq (w : World) : (Op.equalIn 10000 24 (.agg #[.int .u32 0, .int .u32 0, .int .u32 0, .int .u32 0]) (.agg #[.int .u32 0, .int .u32 0, .int .u32 0, .int .u32 0])).run Tryd.prog w = .ok true w :=
  eqD_run (fun _ => 0) (fun _ => 0) w

set_option maxRecDepth 100000 in
set_option maxHeartbeats 4000000 in
theorem rputs_good (t : Int) (I : Nat → UInt32) (A B : Option Addr) (ps : List Int) (ds : List (Nat → UInt32)) (c e : Nat) (f : Int) (w : World) (hP : Places w) (hs : Sl w w.heap.size A ps.length (ps.map iv)) (hd : Sd w w.heap.size B ds) (hr : rightR t I ps ds.length f = true) :
    Calls Tryd.prog 3 #[.agg #[.int .i64 t, .int .u32 (I 0).toNat, .int .u32 (I 1).toNat, .int .u32 (I 2).toNat, .int .u32 (I 3).toNat, .slice A ps.length c, .slice B ds.length e, .int .i64 f]] w fun r w' => r = .returned (.bool true) ∧ Below w.heap.size w w' := by
  obtain ⟨_, _, hp20, _, hm20⟩ := rr_in hr
  obtain ⟨D, hD⟩ : ∃ D, ofRL (bytesR t I ps ds f) = D := ⟨_, rfl⟩
  have k1 : ∀ W : World, Below w.heap.size w W → Calls Tryd.prog 13 #[.agg #[.int .i64 t, .int .u32 (I 0).toNat, .int .u32 (I 1).toNat, .int .u32 (I 2).toNat, .int .u32 (I 3).toNat, .slice A ps.length c, .slice B ds.length e, .int .i64 f]] W fun r w' => r = .returned (.tuple #[.agg #[.int .u32 (D 0).toNat, .int .u32 (D 1).toNat, .int .u32 (D 2).toNat, .int .u32 (D 3).toNat], .int .i64 0]) ∧ Below W.heap.size W w' := fun W h => by
    have k := recipe_Of t I A B ps ds c e f W (hP.below h hP.1) ((hs.below h).more h.size) ((hd.below h).more h.size) hr
    rw [hD] at k
    exact k
  have k2 : ∀ W : World, Below w.heap.size w W → Calls Tryd.prog 14 #[.agg #[.int .i64 t, .int .u32 (I 0).toNat, .int .u32 (I 1).toNat, .int .u32 (I 2).toNat, .int .u32 (I 3).toNat, .slice A ps.length c, .slice B ds.length e, .int .i64 f]] W fun r w' => r = .returned (.tuple #[.agg #[.int .u32 (D 0).toNat, .int .u32 (D 1).toNat, .int .u32 (D 2).toNat, .int .u32 (D 3).toNat], .int .i64 0]) ∧ Below W.heap.size W w' := fun W h => by
    have k := refR_Of t I A B ps ds c e f W ((hs.below h).more h.size) ((hd.below h).more h.size) hr
    rw [hD] at k
    exact k
  have k3 := fun (W : World) (h : Below w.heap.size w W) => recipe_Put t I A B ps ds c e f W ((hs.below h).more h.size) ((hd.below h).more h.size) hr
  have k4 := fun (W : World) (h : Below w.heap.size w W) => refR_Put t I A B ps ds c e f W ((hs.below h).more h.size) ((hd.below h).more h.size) hr
  have k5 : ∀ (t' : Int) (I' : Nat → UInt32) (ps' : List Int) (ds' : List (Nat → UInt32)) (f' : Int) (A' B' : Option Addr) (c' e' : Nat) (W : World), Below w.heap.size w W → sameR t' t I' I f' f ps' ps ds' ds = true → rightR t' I' ps' ds'.length f' = true → Sl W W.heap.size A' ps'.length (ps'.map iv) → Sd W W.heap.size B' ds' →
      Calls Tryd.prog 16 #[.agg #[.int .i64 t', .int .u32 (I' 0).toNat, .int .u32 (I' 1).toNat, .int .u32 (I' 2).toNat, .int .u32 (I' 3).toNat, .slice A' ps'.length c', .slice B' ds'.length e', .int .i64 f'], .agg #[.int .i64 t, .int .u32 (I 0).toNat, .int .u32 (I 1).toNat, .int .u32 (I 2).toNat, .int .u32 (I 3).toNat, .slice A ps.length c, .slice B ds.length e, .int .i64 f]] W fun r w' => r = .returned (.bool true) ∧ Below W.heap.size W w' := fun t' I' ps' ds' f' A' B' c' e' W h hq hqr hS hD => by
    obtain ⟨_, _, h1, _, h2⟩ := rr_in hqr
    have k := refR_Same t' t I' I A' B' A B ps' ps ds' ds c' e' c e f' f W hS ((hs.below h).more h.size) hD ((hd.below h).more h.size) (by omega) (by omega)
    rw [hq] at k
    exact k
  have heq := eqD_run D D
  rw [show eqD D D = true from decide_eq_true ⟨rfl, rfl, rfl, rfl⟩] at heq
  unfold dgv at heq
  simp only [wv] at heq
  have K1 := Lib.hid k1
  have K2 := Lib.hid k2
  have K3 := Lib.hid k3
  have K4 := Lib.hid k4
  have K5 := Lib.hid k5
  have HR := Lib.hid hr
  have H0 := Lib.hid (Rb.new w t I (.slice A ps.length c) (.slice B ds.length e) f)
  clear k1 k2 k3 k4 k5 hD hP hs hd hr
  go_enter Tryd.func3, Tryd.ntmps3
  go_wp2_with fail
  refine (awake_any _).mono ?_
  rintro r w1 ⟨rfl, hb1⟩
  have H1 := Lib.hid (H0.out.below hb1)
  clear H0 hb1
  obtain ⟨c0, c1, c2, c3, c4, c5, c6, c7⟩ := H1.out.all
  go_wp2_with fail
  refine (refR_Few t I A B ps.length c ds.length e f 100 _).mono ?_
  rintro r w2 ⟨he, hb2⟩
  have H2 := Lib.hid (H1.out.below hb2)
  clear H1 hb2 c0 c1 c2 c3 c4 c5 c6 c7
  rw [decide_eq_true ⟨by omega, by omega⟩] at he
  subst he
  obtain ⟨c0, c1, c2, c3, c4, c5, c6, c7⟩ := H2.out.all
  go_wp2_with fail
  refine (K3.out _ H2.out.bel).mono ?_
  rintro r w3 ⟨⟨s, rfl, hsl⟩, hb3⟩
  have H3 := Lib.hid (H2.out.below hb3)
  clear H2 hb3 c0 c1 c2 c3 c4 c5 c6 c7
  obtain ⟨c0, c1, c2, c3, c4, c5, c6, c7⟩ := H3.out.all
  go_wp2_with fail
  refine (K4.out _ H3.out.bel).mono ?_
  rintro r w4 ⟨⟨s2, rfl, hsl2⟩, hb4⟩
  obtain rfl : s2 = s := ba_inj (hsl2.out.trans hsl.out.symm)
  have H4 := Lib.hid (H3.out.below hb4)
  clear H3 hb4 c0 c1 c2 c3 c4 c5 c6 c7 hsl2
  obtain ⟨c0, c1, c2, c3, c4, c5, c6, c7⟩ := H4.out.all
  go_wp2_with fail
  refine (K1.out _ H4.out.bel).mono ?_
  rintro r w5 ⟨rfl, hb5⟩
  have H5 := Lib.hid ((H4.out.below hb5).alloc (.cells #[.int .u32 (D 0).toNat, .int .u32 (D 1).toNat, .int .u32 (D 2).toNat, .int .u32 (D 3).toNat] 24))
  have hB1 := Lib.hid (Blk.new w5 24 #[.int .u32 (D 0).toNat, .int .u32 (D 1).toNat, .int .u32 (D 2).toNat, .int .u32 (D 3).toNat])
  clear H4 hb5 c0 c1 c2 c3 c4 c5 c6 c7
  obtain ⟨c0, c1, c2, c3, c4, c5, c6, c7⟩ := H5.out.all
  go_wp2_with fail
  refine (K2.out _ H5.out.bel).mono ?_
  rintro r w6 ⟨rfl, hb6⟩
  have H6 := Lib.hid ((H5.out.below hb6).alloc (.cells #[.int .u32 (D 0).toNat, .int .u32 (D 1).toNat, .int .u32 (D 2).toNat, .int .u32 (D 3).toNat] 24))
  have hB2 := (hB1.out.below hb6 hB1.out.lt).alloc (.cells #[.int .u32 (D 0).toNat, .int .u32 (D 1).toNat, .int .u32 (D 2).toNat, .int .u32 (D 3).toNat] 24)
  have hB3 := Blk.new w6 24 #[.int .u32 (D 0).toNat, .int .u32 (D 1).toNat, .int .u32 (D 2).toNat, .int .u32 (D 3).toNat]
  clear H5 hb6 hB1 c0 c1 c2 c3 c4 c5 c6 c7
  have x0 := hB2.cell 0
  have x1 := hB2.cell 1
  have x2 := hB2.cell 2
  have x3 := hB2.cell 3
  have y0 := hB3.cell 0
  have y1 := hB3.cell 1
  have y2 := hB3.cell 2
  have y3 := hB3.cell 3
  clear hB2 hB3
  go_wp2_with fail
  clear x0 x1 x2 x3 y0 y1 y2 y3
  refine (recipe_Read_good s2 t I ps ds f _ hsl.out HR.out).mono ?_
  rintro r w7 ⟨⟨t', I', ps', ds', f', A', B', c', e', rfl, hq, hqr, hS, hD'⟩, hb7⟩
  have H7 := Lib.hid ((H6.out.below hb7).alloc (.cells (recv t' I' (.slice A' ps'.length c') (.slice B' ds'.length e') f') 28))
  have hQ := Blk.new w7 28 (recv t' I' (.slice A' ps'.length c') (.slice B' ds'.length e') f')
  have HS := Lib.hid ((hS.below ((Below.refl _ w7).alloc (Nat.le_refl _) (.cells (recv t' I' (.slice A' ps'.length c') (.slice B' ds'.length e') f') 28))).more (B' := (w7.alloc (.cells (recv t' I' (.slice A' ps'.length c') (.slice B' ds'.length e') f') 28)).heap.size) (by simp))
  have HD := Lib.hid ((hD'.below ((Below.refl _ w7).alloc (Nat.le_refl _) (.cells (recv t' I' (.slice A' ps'.length c') (.slice B' ds'.length e') f') 28))).more (B' := (w7.alloc (.cells (recv t' I' (.slice A' ps'.length c') (.slice B' ds'.length e') f') 28)).heap.size) (by simp))
  unfold recv at H7 hQ HS HD
  obtain ⟨⟨q0, q1, q2, q3, q4, q5, q6, q7⟩, _⟩ := Blk.all8 hQ
  obtain ⟨c0, c1, c2, c3, c4, c5, c6, c7⟩ := H7.out.all
  clear hS hD' hQ H6 hb7
  go_wp2_with fail
  refine (K5.out t' I' ps' ds' f' A' B' c' e' _ H7.out.bel hq.out hqr.out HS.out HD.out).mono ?_
  rintro r w8 ⟨rfl, hb8⟩
  go_wp2_with fail
  go_returns
  exact ⟨rfl, H7.out.bel.trans (hb8.mono H7.out.bel.size)⟩

set_option maxRecDepth 100000 in
set_option maxHeartbeats 4000000 in
theorem rputs_bad (t : Int) (I : Nat → UInt32) (A B : Option Addr) (ps : List Int) (ds : List (Nat → UInt32)) (c e : Nat) (f : Int) (w : World) (hs : Sl w w.heap.size A ps.length (ps.map iv)) (hr : rightR t I ps ds.length f = false) :
    Calls Tryd.prog 3 #[.agg #[.int .i64 t, .int .u32 (I 0).toNat, .int .u32 (I 1).toNat, .int .u32 (I 2).toNat, .int .u32 (I 3).toNat, .slice A ps.length c, .slice B ds.length e, .int .i64 f]] w fun r w' => r = .returned (.bool true) ∧ Below w.heap.size w w' := by
  have heq := zero_eq
  have HR := Lib.hid hr
  have HS := Lib.hid hs
  have H0 := Lib.hid (Rb.new w t I (.slice A ps.length c) (.slice B ds.length e) f)
  clear hr hs
  go_enter Tryd.func3, Tryd.ntmps3
  go_wp2_with fail
  refine (awake_any _).mono ?_
  rintro r w1 ⟨rfl, hb1⟩
  have H1 := Lib.hid (H0.out.below hb1)
  clear H0 hb1
  obtain ⟨c0, c1, c2, c3, c4, c5, c6, c7⟩ := H1.out.all
  go_wp2_with fail
  refine (refR_Few t I A B ps.length c ds.length e f 100 _).mono ?_
  rintro r w2 ⟨he, hb2⟩
  have H2 := Lib.hid (H1.out.below hb2)
  clear H1 hb2 c0 c1 c2 c3 c4 c5 c6 c7
  by_cases hf1 : ps.length ≤ 100 ∧ ds.length ≤ 100
  case neg =>
    rw [decide_eq_false hf1] at he
    subst he
    go_wp2_with fail
    go_returns
    exact ⟨rfl, H2.out.bel⟩
  rw [decide_eq_true hf1] at he
  subst he
  obtain ⟨hp20, hm20⟩ := hf1
  obtain ⟨c0, c1, c2, c3, c4, c5, c6, c7⟩ := H2.out.all
  go_wp2_with fail
  refine (recipe_Put_bad t I A B ps c ds.length e f _ ((HS.out.below H2.out.bel).more H2.out.bel.size) (by omega) (by omega) HR.out).mono ?_
  rintro r w3 ⟨rfl, hb3⟩
  have H3 := Lib.hid (H2.out.below hb3)
  clear H2 hb3 c0 c1 c2 c3 c4 c5 c6 c7
  obtain ⟨c0, c1, c2, c3, c4, c5, c6, c7⟩ := H3.out.all
  go_wp2_with fail
  refine (refR_Put_bad t I A B ps c ds.length e f _ ((HS.out.below H3.out.bel).more H3.out.bel.size) (by omega) (by omega) HR.out).mono ?_
  rintro r w4 ⟨rfl, hb4⟩
  have H4 := Lib.hid (H3.out.below hb4)
  clear H3 hb4 c0 c1 c2 c3 c4 c5 c6 c7
  obtain ⟨c0, c1, c2, c3, c4, c5, c6, c7⟩ := H4.out.all
  go_wp2_with fail
  refine (recipe_Of_bad t I A B ps c ds.length e f _ ((HS.out.below H4.out.bel).more H4.out.bel.size) (by omega) (by omega) HR.out).mono ?_
  rintro r w5 ⟨rfl, hb5⟩
  have H5 := Lib.hid ((H4.out.below hb5).alloc (.cells #[.int .u32 0, .int .u32 0, .int .u32 0, .int .u32 0] 24))
  have hB1 := Lib.hid (Blk.new w5 24 #[.int .u32 0, .int .u32 0, .int .u32 0, .int .u32 0])
  clear H4 hb5 c0 c1 c2 c3 c4 c5 c6 c7
  obtain ⟨c0, c1, c2, c3, c4, c5, c6, c7⟩ := H5.out.all
  go_wp2_with fail
  refine (refR_Of_bad t I A B ps c ds.length e f _ ((HS.out.below H5.out.bel).more H5.out.bel.size) (by omega) (by omega) HR.out).mono ?_
  rintro r w6 ⟨rfl, hb6⟩
  have H6 := Lib.hid ((H5.out.below hb6).alloc (.cells #[.int .u32 0, .int .u32 0, .int .u32 0, .int .u32 0] 24))
  have hB2 := (hB1.out.below hb6 hB1.out.lt).alloc (.cells #[.int .u32 0, .int .u32 0, .int .u32 0, .int .u32 0] 24)
  have hB3 := Blk.new w6 24 #[.int .u32 0, .int .u32 0, .int .u32 0, .int .u32 0]
  clear H5 hb6 hB1 c0 c1 c2 c3 c4 c5 c6 c7
  have x0 := hB2.cell 0
  have x1 := hB2.cell 1
  have x2 := hB2.cell 2
  have x3 := hB2.cell 3
  have y0 := hB3.cell 0
  have y1 := hB3.cell 1
  have y2 := hB3.cell 2
  have y3 := hB3.cell 3
  clear hB2 hB3
  go_wp2_with fail
  clear x0 x1 x2 x3 y0 y1 y2 y3
  refine (empty_Read _).mono ?_
  rintro r w7 ⟨rfl, hb7⟩
  have H7 := Lib.hid ((H6.out.below hb7).alloc (.cells #[.int .i64 0, .int .u32 0, .int .u32 0, .int .u32 0, .int .u32 0, .slice none 0 0, .slice none 0 0, .int .i64 0] 28))
  have hQ := Blk.new w7 28 #[.int .i64 0, .int .u32 0, .int .u32 0, .int .u32 0, .int .u32 0, .slice none 0 0, .slice none 0 0, .int .i64 0]
  obtain ⟨⟨q0, q1, q2, q3, q4, q5, q6, q7⟩, _⟩ := Blk.all8 hQ
  clear hQ H6 hb7
  go_wp2_with fail
  refine (zero_Same _).mono ?_
  rintro r w8 ⟨rfl, hb8⟩
  go_wp2_with fail
  go_returns
  exact ⟨rfl, H7.out.bel.trans (hb8.mono H7.out.bel.size)⟩

theorem rputs_walk (t : Int) (I : Nat → UInt32) (A B : Option Addr) (ps : List Int) (ds : List (Nat → UInt32)) (c e : Nat) (f : Int) (w : World) (hP : Places w) (hs : Sl w w.heap.size A ps.length (ps.map iv)) (hd : Sd w w.heap.size B ds) :
    Calls Tryd.prog 3 #[.agg #[.int .i64 t, .int .u32 (I 0).toNat, .int .u32 (I 1).toNat, .int .u32 (I 2).toNat, .int .u32 (I 3).toNat, .slice A ps.length c, .slice B ds.length e, .int .i64 f]] w fun r w' => r = .returned (.bool true) ∧ Below w.heap.size w w' := by
  cases hr : rightR t I ps ds.length f with
  | true => exact rputs_good t I A B ps ds c e f w hP hs hd hr
  | false => exact rputs_bad t I A B ps ds c e f w hs hr
end Go.Proofs.YtdkkomcokefkhaaDoor
