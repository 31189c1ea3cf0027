/- The law RecipeApart, walked. -/
import Derived.Test.YtdkkomcokefkhaaDoorRcW
import Derived.Test.YtdkkomcokefkhaaDoorLawRRight
namespace Go.Proofs.YtdkkomcokefkhaaDoor
open Go.RowKit

/-- Five digests in boxes. -/
structure D5 (w : World) (g0 g1 g2 g3 g4 : Nat) (C D X Y Z : Nat → UInt32) (W : World) : Prop where
  c : Blk W g0 24 #[.int .u32 (C 0).toNat, .int .u32 (C 1).toNat, .int .u32 (C 2).toNat, .int .u32 (C 3).toNat]
  d : Blk W g1 24 #[.int .u32 (D 0).toNat, .int .u32 (D 1).toNat, .int .u32 (D 2).toNat, .int .u32 (D 3).toNat]
  x : Blk W g2 24 #[.int .u32 (X 0).toNat, .int .u32 (X 1).toNat, .int .u32 (X 2).toNat, .int .u32 (X 3).toNat]
  y : Blk W g3 24 #[.int .u32 (Y 0).toNat, .int .u32 (Y 1).toNat, .int .u32 (Y 2).toNat, .int .u32 (Y 3).toNat]
  z : Blk W g4 24 #[.int .u32 (Z 0).toNat, .int .u32 (Z 1).toNat, .int .u32 (Z 2).toNat, .int .u32 (Z 3).toNat]
  bel : Below w.heap.size w W
section
variable {w W W' : World} {g0 g1 g2 g3 g4 : Nat} {C D X Y Z : Nat → UInt32}
theorem D5.below (h : D5 w g0 g1 g2 g3 g4 C D X Y Z W) (hb : Below W.heap.size W W') : D5 w g0 g1 g2 g3 g4 C D X Y Z W' := ⟨h.c.below hb h.c.lt, h.d.below hb h.d.lt, h.x.below hb h.x.lt, h.y.below hb h.y.lt, h.z.below hb h.z.lt, h.bel.trans (hb.mono h.bel.size)⟩
theorem D5.drew (h : D5 w g0 g1 g2 g3 g4 C D X Y Z W) : D5 w g0 g1 g2 g3 g4 C D X Y Z W.drew := h.below (Below.refl _ W).drew
theorem D5.held (h : D5 w g0 g1 g2 g3 g4 C D X Y Z W) : W.cell? ⟨g0, 0, none⟩ = some (.int .u32 (C 0).toNat) ∧ W.cell? ⟨g0, 1, none⟩ = some (.int .u32 (C 1).toNat) ∧ W.cell? ⟨g0, 2, none⟩ = some (.int .u32 (C 2).toNat) ∧ W.cell? ⟨g0, 3, none⟩ = some (.int .u32 (C 3).toNat) ∧ W.cell? ⟨g1, 0, none⟩ = some (.int .u32 (D 0).toNat) ∧ W.cell? ⟨g1, 1, none⟩ = some (.int .u32 (D 1).toNat) ∧ W.cell? ⟨g1, 2, none⟩ = some (.int .u32 (D 2).toNat) ∧ W.cell? ⟨g1, 3, none⟩ = some (.int .u32 (D 3).toNat) ∧ W.cell? ⟨g2, 0, none⟩ = some (.int .u32 (X 0).toNat) ∧ W.cell? ⟨g2, 1, none⟩ = some (.int .u32 (X 1).toNat) ∧ W.cell? ⟨g2, 2, none⟩ = some (.int .u32 (X 2).toNat) ∧ W.cell? ⟨g2, 3, none⟩ = some (.int .u32 (X 3).toNat) ∧ W.cell? ⟨g3, 0, none⟩ = some (.int .u32 (Y 0).toNat) ∧ W.cell? ⟨g3, 1, none⟩ = some (.int .u32 (Y 1).toNat) ∧ W.cell? ⟨g3, 2, none⟩ = some (.int .u32 (Y 2).toNat) ∧ W.cell? ⟨g3, 3, none⟩ = some (.int .u32 (Y 3).toNat) ∧ W.cell? ⟨g4, 0, none⟩ = some (.int .u32 (Z 0).toNat) ∧ W.cell? ⟨g4, 1, none⟩ = some (.int .u32 (Z 1).toNat) ∧ W.cell? ⟨g4, 2, none⟩ = some (.int .u32 (Z 2).toNat) ∧ W.cell? ⟨g4, 3, none⟩ = some (.int .u32 (Z 3).toNat) ∧ D5 w g0 g1 g2 g3 g4 C D X Y Z W :=
  ⟨h.c.cell 0, h.c.cell 1, h.c.cell 2, h.c.cell 3, h.d.cell 0, h.d.cell 1, h.d.cell 2, h.d.cell 3, h.x.cell 0, h.x.cell 1, h.x.cell 2, h.x.cell 3, h.y.cell 0, h.y.cell 1, h.y.cell 2, h.y.cell 3, h.z.cell 0, h.z.cell 1, h.z.cell 2, h.z.cell 3, h⟩
end
theorem ba_toList (s : ByteArray) : s.toList = s.data.toList := by
  have := Lib.extract_toList s 0 s.size
  have e3 : s.extract 0 s.size = s := by
    refine ba_inj ?_
    rw [Lib.extract_data]
    show (s.data.toList.take (s.size - 0)) = _
    exact List.take_of_length_le (Nat.le_refl _)
  rw [e3] at this
  rw [this]
  exact List.take_of_length_le (Nat.le_refl _)
set_option maxRecDepth 100000 in
set_option maxHeartbeats 4000000 in
theorem rapart_no (t t' : Int) (I I' : Nat → UInt32) (A B A' B' : Option Addr) (ps ps' : List Int) (ds ds' : List (Nat → UInt32)) (c e c' e' : Nat) (f f' : Int) (w : World) (hs : Sl w w.heap.size A ps.length (ps.map iv)) (hs' : Sl w w.heap.size A' ps'.length (ps'.map iv)) (_hd : Sd w w.heap.size B ds) (_hd' : Sd w w.heap.size B' ds') (hno : ¬ (rightR t I ps ds.length f = true ∧ rightR t' I' ps' ds'.length f' = true)) :
    Calls Tryd.prog 5 #[.agg #[.int .i64 t, .int .u32 (I 0).toNat, .int .u32 (I 1).toNat, .int .u32 (I 2).toNat, .int .u32 (I 3).toNat, .slice A ps.length c, .slice B ds.length e, .int .i64 f], .agg #[.int .i64 t', .int .u32 (I' 0).toNat, .int .u32 (I' 1).toNat, .int .u32 (I' 2).toNat, .int .u32 (I' 3).toNat, .slice A' ps'.length c', .slice B' ds'.length e', .int .i64 f']] w fun r w' => r = .returned (.bool true) ∧ Below w.heap.size w w' := by
  have H0 := Lib.hid (Rb2.new w t I (.slice A ps.length c) (.slice B ds.length e) f t' I' (.slice A' ps'.length c') (.slice B' ds'.length e') f')
  go_enter Tryd.func5, Tryd.ntmps5
  go_wp2_with fail
  refine (awake_any _).mono ?_
  rintro r w1 ⟨rfl, hb1⟩
  have H1 := Lib.hid (H0.out.below hb1)
  clear H0 hb1
  obtain ⟨c0, c1, c2, c3, c4, c5, c6, c7, d0, d1, d2, d3, d4, d5, d6, d7⟩ := H1.out.all
  go_wp2_with fail
  refine (refR_Few t I A B ps.length c ds.length e f 20 _).mono ?_
  rintro r w2 ⟨he, hb2⟩
  have H2 := Lib.hid (H1.out.below hb2)
  clear H1 hb2 c0 c1 c2 c3 c4 c5 c6 c7 d0 d1 d2 d3 d4 d5 d6 d7
  by_cases hf1 : ps.length ≤ 20 ∧ ds.length ≤ 20
  case neg =>
    rw [decide_eq_false hf1] at he
    subst he
    go_wp2_with fail
    go_returns
    exact ⟨rfl, H2.out.bel⟩
  rw [decide_eq_true hf1] at he
  subst he
  obtain ⟨c0, c1, c2, c3, c4, c5, c6, c7, d0, d1, d2, d3, d4, d5, d6, d7⟩ := H2.out.all
  go_wp2_with fail
  refine (refR_Few t' I' A' B' ps'.length c' ds'.length e' f' 20 _).mono ?_
  rintro r w3 ⟨he, hb3⟩
  have H3 := Lib.hid (H2.out.below hb3)
  clear H2 hb3 c0 c1 c2 c3 c4 c5 c6 c7 d0 d1 d2 d3 d4 d5 d6 d7
  by_cases hf2 : ps'.length ≤ 20 ∧ ds'.length ≤ 20
  case neg =>
    rw [decide_eq_false hf2] at he
    subst he
    go_wp2_with fail
    go_returns
    exact ⟨rfl, H3.out.bel⟩
  rw [decide_eq_true hf2] at he
  subst he
  obtain ⟨n1, n2⟩ := hf1
  obtain ⟨n3, n4⟩ := hf2
  obtain ⟨c0, c1, c2, c3, c4, c5, c6, c7, d0, d1, d2, d3, d4, d5, d6, d7⟩ := H3.out.all
  go_wp2_with fail
  refine (refR_Right t I A B ps c ds.length e f _ ((hs.below H3.out.bel).more H3.out.bel.size) (by omega) (by omega)).mono ?_
  rintro r w4 ⟨he, hb4⟩
  have H4 := Lib.hid (H3.out.below hb4)
  clear H3 hb4 c0 c1 c2 c3 c4 c5 c6 c7 d0 d1 d2 d3 d4 d5 d6 d7
  cases hr : rightR t I ps ds.length f with
  | false =>
    rw [hr] at he
    subst he
    go_wp2_with fail
    go_returns
    exact ⟨rfl, H4.out.bel⟩
  | true =>
    rw [hr] at he
    subst he
    obtain ⟨c0, c1, c2, c3, c4, c5, c6, c7, d0, d1, d2, d3, d4, d5, d6, d7⟩ := H4.out.all
    have hr2 : rightR t' I' ps' ds'.length f' = false := by
      cases h2 : rightR t' I' ps' ds'.length f' with
      | false => rfl
      | true => exact absurd ⟨hr, h2⟩ hno
    clear hno
    go_wp2_with fail
    refine (refR_Right t' I' A' B' ps' c' ds'.length e' f' _ ((hs'.below H4.out.bel).more H4.out.bel.size) (by omega) (by omega)).mono ?_
    rintro r w5 ⟨he, hb5⟩
    have H5 := Lib.hid (H4.out.below hb5)
    clear H4 hb5 c0 c1 c2 c3 c4 c5 c6 c7 d0 d1 d2 d3 d4 d5 d6 d7
    rw [hr2] at he
    subst he
    go_wp2_with fail
    go_returns
    exact ⟨rfl, H5.out.bel⟩

set_option maxRecDepth 100000 in
set_option maxHeartbeats 4000000 in
theorem rapart_yes (t t' : Int) (I I' : Nat → UInt32) (A B A' B' : Option Addr) (ps ps' : List Int) (ds ds' : List (Nat → UInt32)) (c e c' e' : Nat) (f f' : Int) (w : World) (hs : Sl w w.heap.size A ps.length (ps.map iv)) (hs' : Sl w w.heap.size A' ps'.length (ps'.map iv)) (hd : Sd w w.heap.size B ds) (hd' : Sd w w.heap.size B' ds') (hP : Places w) (hr : rightR t I ps ds.length f = true) (hr' : rightR t' I' ps' ds'.length f' = true) (hQ : sameR t t' I I' f f' ps ps' ds ds' = true) :
    Calls Tryd.prog 5 #[.agg #[.int .i64 t, .int .u32 (I 0).toNat, .int .u32 (I 1).toNat, .int .u32 (I 2).toNat, .int .u32 (I 3).toNat, .slice A ps.length c, .slice B ds.length e, .int .i64 f], .agg #[.int .i64 t', .int .u32 (I' 0).toNat, .int .u32 (I' 1).toNat, .int .u32 (I' 2).toNat, .int .u32 (I' 3).toNat, .slice A' ps'.length c', .slice B' ds'.length e', .int .i64 f']] w fun r w' => r = .returned (.bool true) ∧ Below w.heap.size w w' := by
  have hlab := same_len hQ
  obtain ⟨C, hC⟩ : ∃ C, ofRL (bytesR t I ps ds f) = C := ⟨_, rfl⟩
  have hD : ofRL (bytesR t' I' ps' ds' f') = C := by rw [← hlab, hC]
  have hn1 : ps.length ≤ 1000000 := by have := (rr_in hr).2.2.1; omega
  have hn2 : ds.length ≤ 1000000 := by have := (rr_in hr).2.2.2.2; omega
  have k4 := fun (W : World) (h : Below w.heap.size w W) => refR_Same t t' I I' A B A' B' ps ps' ds ds' c e c' e' f f' W ((hs.below h).more h.size) ((hs'.below h).more h.size) ((hd.below h).more h.size) ((hd'.below h).more h.size) (by omega) (by omega)
  rw [hQ] at k4
  have k1 : ∀ W : World, Below w.heap.size w W → Calls Tryd.prog 13 #[.agg #[.int .i64 t, .int .u32 (I 0).toNat, .int .u32 (I 1).toNat, .int .u32 (I 2).toNat, .int .u32 (I 3).toNat, .slice A ps.length c, .slice B ds.length e, .int .i64 f]] W fun r w' => r = .returned (.tuple #[.agg #[.int .u32 (C 0).toNat, .int .u32 (C 1).toNat, .int .u32 (C 2).toNat, .int .u32 (C 3).toNat], .int .i64 0]) ∧ Below W.heap.size W w' := fun W h => by
    have k := recipe_Of t I A B ps ds c e f W (hP.below h hP.1) ((hs.below h).more h.size) ((hd.below h).more h.size) hr
    rw [hC] at k
    exact k
  have k2 : ∀ W : World, Below w.heap.size w W → Calls Tryd.prog 13 #[.agg #[.int .i64 t', .int .u32 (I' 0).toNat, .int .u32 (I' 1).toNat, .int .u32 (I' 2).toNat, .int .u32 (I' 3).toNat, .slice A' ps'.length c', .slice B' ds'.length e', .int .i64 f']] W fun r w' => r = .returned (.tuple #[.agg #[.int .u32 (C 0).toNat, .int .u32 (C 1).toNat, .int .u32 (C 2).toNat, .int .u32 (C 3).toNat], .int .i64 0]) ∧ Below W.heap.size W w' := fun W h => by
    have k := recipe_Of t' I' A' B' ps' ds' c' e' f' W (hP.below h hP.1) ((hs'.below h).more h.size) ((hd'.below h).more h.size) hr'
    rw [hD] at k
    exact k
  have heq := eqD_run C C
  rw [show eqD C C = true from decide_eq_true ⟨rfl, rfl, rfl, rfl⟩] at heq
  unfold dgv at heq
  simp only [wv] at heq
  have K1 := Lib.hid k1
  have K2 := Lib.hid k2
  have K4 := Lib.hid k4
  have HLAB := Lib.hid hlab
  clear k1 k2 k4 hC hD hQ hP hn1 hn2 hlab
  obtain ⟨_, _, n1, _, n2⟩ := rr_in hr
  obtain ⟨_, _, n3, _, n4⟩ := rr_in hr'
  have HR1 := Lib.hid hr
  have HR2 := Lib.hid hr'
  clear hr hr'
  have H0 := Lib.hid (Rb2.new w t I (.slice A ps.length c) (.slice B ds.length e) f t' I' (.slice A' ps'.length c') (.slice B' ds'.length e') f')
  go_enter Tryd.func5, Tryd.ntmps5
  go_wp2_with fail
  refine (awake_any _).mono ?_
  rintro r w1 ⟨rfl, hb1⟩
  have H1 := Lib.hid (H0.out.below hb1)
  clear H0 hb1
  obtain ⟨c0, c1, c2, c3, c4, c5, c6, c7, d0, d1, d2, d3, d4, d5, d6, d7⟩ := H1.out.all
  go_wp2_with fail
  refine (refR_Few t I A B ps.length c ds.length e f 20 _).mono ?_
  rintro r w2 ⟨he, hb2⟩
  have H2 := Lib.hid (H1.out.below hb2)
  clear H1 hb2 c0 c1 c2 c3 c4 c5 c6 c7 d0 d1 d2 d3 d4 d5 d6 d7
  rw [decide_eq_true ⟨by omega, by omega⟩] at he
  subst he
  obtain ⟨c0, c1, c2, c3, c4, c5, c6, c7, d0, d1, d2, d3, d4, d5, d6, d7⟩ := H2.out.all
  go_wp2_with fail
  refine (refR_Few t' I' A' B' ps'.length c' ds'.length e' f' 20 _).mono ?_
  rintro r w3 ⟨he, hb3⟩
  have H3 := Lib.hid (H2.out.below hb3)
  clear H2 hb3 c0 c1 c2 c3 c4 c5 c6 c7 d0 d1 d2 d3 d4 d5 d6 d7
  rw [decide_eq_true ⟨by omega, by omega⟩] at he
  subst he
  obtain ⟨c0, c1, c2, c3, c4, c5, c6, c7, d0, d1, d2, d3, d4, d5, d6, d7⟩ := H3.out.all
  go_wp2_with fail
  refine (refR_Right t I A B ps c ds.length e f _ ((hs.below H3.out.bel).more H3.out.bel.size) (by omega) (by omega)).mono ?_
  rintro r w4 ⟨he, hb4⟩
  have H4 := Lib.hid (H3.out.below hb4)
  clear H3 hb4 c0 c1 c2 c3 c4 c5 c6 c7 d0 d1 d2 d3 d4 d5 d6 d7
  rw [HR1.out] at he
  subst he
  obtain ⟨c0, c1, c2, c3, c4, c5, c6, c7, d0, d1, d2, d3, d4, d5, d6, d7⟩ := H4.out.all
  go_wp2_with fail
  refine (refR_Right t' I' A' B' ps' c' ds'.length e' f' _ ((hs'.below H4.out.bel).more H4.out.bel.size) (by omega) (by omega)).mono ?_
  rintro r w5 ⟨he, hb5⟩
  have H5 := Lib.hid (H4.out.below hb5)
  clear H4 hb5 c0 c1 c2 c3 c4 c5 c6 c7 d0 d1 d2 d3 d4 d5 d6 d7
  rw [HR2.out] at he
  subst he
  obtain ⟨c0, c1, c2, c3, c4, c5, c6, c7, d0, d1, d2, d3, d4, d5, d6, d7⟩ := H5.out.all
  go_wp2_with fail
  refine (recipe_Put t I A B ps ds c e f _ ((hs.below H5.out.bel).more H5.out.bel.size) ((hd.below H5.out.bel).more H5.out.bel.size) HR1.out).mono ?_
  rintro r w6 ⟨⟨s, rfl, hsl⟩, hb6⟩
  have H6 := Lib.hid (H5.out.below hb6)
  clear H5 hb6 c0 c1 c2 c3 c4 c5 c6 c7 d0 d1 d2 d3 d4 d5 d6 d7
  obtain ⟨c0, c1, c2, c3, c4, c5, c6, c7, d0, d1, d2, d3, d4, d5, d6, d7⟩ := H6.out.all
  go_wp2_with fail
  refine (recipe_Put t' I' A' B' ps' ds' c' e' f' _ ((hs'.below H6.out.bel).more H6.out.bel.size) ((hd'.below H6.out.bel).more H6.out.bel.size) HR2.out).mono ?_
  rintro r w7 ⟨⟨s2, rfl, htl⟩, hb7⟩
  have H7 := Lib.hid (H6.out.below hb7)
  clear H6 hb7 c0 c1 c2 c3 c4 c5 c6 c7 d0 d1 d2 d3 d4 d5 d6 d7
  obtain rfl : s2 = s := ba_inj (htl.out.trans (HLAB.out.symm.trans hsl.out.symm))
  obtain ⟨c0, c1, c2, c3, c4, c5, c6, c7, d0, d1, d2, d3, d4, d5, d6, d7⟩ := H7.out.all
  clear hs hs' hd hd' n1 n2 n3 n4
  go_wp2_with fail
  refine (K4.out _ H7.out.bel).mono ?_
  rintro r w8 ⟨rfl, hb8⟩
  have H8 := Lib.hid (H7.out.below hb8)
  clear H7 hb8 c0 c1 c2 c3 c4 c5 c6 c7 d0 d1 d2 d3 d4 d5 d6 d7
  obtain ⟨c0, c1, c2, c3, c4, c5, c6, c7, d0, d1, d2, d3, d4, d5, d6, d7⟩ := H8.out.all
  go_wp2_with fail
  refine (K1.out _ H8.out.bel).mono ?_
  rintro r w9 ⟨rfl, hb9⟩
  have H9 := Lib.hid ((H8.out.below hb9).below ((Below.refl _ w9).alloc (Nat.le_refl _) (.cells #[.int .u32 (C 0).toNat, .int .u32 (C 1).toNat, .int .u32 (C 2).toNat, .int .u32 (C 3).toNat] 24)))
  have hB1 := Lib.hid (Blk.new w9 24 #[.int .u32 (C 0).toNat, .int .u32 (C 1).toNat, .int .u32 (C 2).toNat, .int .u32 (C 3).toNat])
  clear H8 hb9 c0 c1 c2 c3 c4 c5 c6 c7 d0 d1 d2 d3 d4 d5 d6 d7
  obtain ⟨c0, c1, c2, c3, c4, c5, c6, c7, d0, d1, d2, d3, d4, d5, d6, d7⟩ := H9.out.all
  go_wp2_with fail
  refine (K2.out _ H9.out.bel).mono ?_
  rintro r w10 ⟨rfl, hb10⟩
  have hB2 := (hB1.out.below hb10 hB1.out.lt).alloc (.cells #[.int .u32 (C 0).toNat, .int .u32 (C 1).toNat, .int .u32 (C 2).toNat, .int .u32 (C 3).toNat] 24)
  have hB3 := Blk.new w10 24 #[.int .u32 (C 0).toNat, .int .u32 (C 1).toNat, .int .u32 (C 2).toNat, .int .u32 (C 3).toNat]
  have HBE := Lib.hid ((H9.out.below hb10).bel.alloc (H9.out.below hb10).bel.size (.cells #[.int .u32 (C 0).toNat, .int .u32 (C 1).toNat, .int .u32 (C 2).toNat, .int .u32 (C 3).toNat] 24))
  clear H9 hb10 hB1 c0 c1 c2 c3 c4 c5 c6 c7 d0 d1 d2 d3 d4 d5 d6 d7
  have x0 := hB2.cell 0
  have x1 := hB2.cell 1
  have x2 := hB2.cell 2
  have x3 := hB2.cell 3
  have y0 := hB3.cell 0
  have y1 := hB3.cell 1
  have y2 := hB3.cell 2
  have y3 := hB3.cell 3
  clear hB2 hB3
  go_wp2_with fail
  go_returns
  exact ⟨rfl, HBE.out⟩

set_option maxRecDepth 100000 in
set_option maxHeartbeats 4000000 in
theorem rapart_c (t t' : Int) (I I' : Nat → UInt32) (A B A' B' : Option Addr) (ps ps' : List Int) (ds ds' : List (Nat → UInt32)) (c e c' e' : Nat) (f f' : Int) (w : World) (hs : Sl w w.heap.size A ps.length (ps.map iv)) (hs' : Sl w w.heap.size A' ps'.length (ps'.map iv)) (hd : Sd w w.heap.size B ds) (hd' : Sd w w.heap.size B' ds') (hP : Places w) (hr : rightR t I ps ds.length f = true) (hr' : rightR t' I' ps' ds'.length f' = true) (hQ : sameR t t' I I' f f' ps ps' ds ds' = false) (hcd : eqD (ofRL (bytesR t I ps ds f)) (ofRL (bytesR t' I' ps' ds' f')) = false) :
    Calls Tryd.prog 5 #[.agg #[.int .i64 t, .int .u32 (I 0).toNat, .int .u32 (I 1).toNat, .int .u32 (I 2).toNat, .int .u32 (I 3).toNat, .slice A ps.length c, .slice B ds.length e, .int .i64 f], .agg #[.int .i64 t', .int .u32 (I' 0).toNat, .int .u32 (I' 1).toNat, .int .u32 (I' 2).toNat, .int .u32 (I' 3).toNat, .slice A' ps'.length c', .slice B' ds'.length e', .int .i64 f']] w fun r w' => r = .returned (.bool true) ∧ Below w.heap.size w w' := by
  have hlab : bytesR t I ps ds f ≠ bytesR t' I' ps' ds' f' := fun h => by
    rw [words_inj hr hr' (bytesR_eq.1 h)] at hQ
    cases hQ
  obtain ⟨C, hC⟩ : ∃ C, ofRL (bytesR t I ps ds f) = C := ⟨_, rfl⟩
  obtain ⟨D, hD⟩ : ∃ D, ofRL (bytesR t' I' ps' ds' f') = D := ⟨_, rfl⟩
  obtain ⟨X, hX⟩ : ∃ X, ofL (bytesR t I ps ds f) = X := ⟨_, rfl⟩
  obtain ⟨Y, hY⟩ : ∃ Y, ofL (bytesR t' I' ps' ds' f') = Y := ⟨_, rfl⟩
  obtain ⟨Z, hZ⟩ : ∃ Z, ofL nameL = Z := ⟨_, rfl⟩
  have hXZ : pairD X Z = C := by rw [← hC, ← hX, ← hZ]; rfl
  have hYZ : pairD Y Z = D := by rw [← hD, ← hY, ← hZ]; rfl
  have hn1 : ps.length ≤ 1000000 := by have := (rr_in hr).2.2.1; omega
  have hn2 : ds.length ≤ 1000000 := by have := (rr_in hr).2.2.2.2; omega
  have k4 := fun (W : World) (h : Below w.heap.size w W) => refR_Same t t' I I' A B A' B' ps ps' ds ds' c e c' e' f f' W ((hs.below h).more h.size) ((hs'.below h).more h.size) ((hd.below h).more h.size) ((hd'.below h).more h.size) (by omega) (by omega)
  rw [hQ] at k4
  have k1 : ∀ W : World, Below w.heap.size w W → Calls Tryd.prog 13 #[.agg #[.int .i64 t, .int .u32 (I 0).toNat, .int .u32 (I 1).toNat, .int .u32 (I 2).toNat, .int .u32 (I 3).toNat, .slice A ps.length c, .slice B ds.length e, .int .i64 f]] W fun r w' => r = .returned (.tuple #[.agg #[.int .u32 (C 0).toNat, .int .u32 (C 1).toNat, .int .u32 (C 2).toNat, .int .u32 (C 3).toNat], .int .i64 0]) ∧ Below W.heap.size W w' := fun W h => by
    have k := recipe_Of t I A B ps ds c e f W (hP.below h hP.1) ((hs.below h).more h.size) ((hd.below h).more h.size) hr
    rw [hC] at k
    exact k
  have k2 : ∀ W : World, Below w.heap.size w W → Calls Tryd.prog 13 #[.agg #[.int .i64 t', .int .u32 (I' 0).toNat, .int .u32 (I' 1).toNat, .int .u32 (I' 2).toNat, .int .u32 (I' 3).toNat, .slice A' ps'.length c', .slice B' ds'.length e', .int .i64 f']] W fun r w' => r = .returned (.tuple #[.agg #[.int .u32 (D 0).toNat, .int .u32 (D 1).toNat, .int .u32 (D 2).toNat, .int .u32 (D 3).toNat], .int .i64 0]) ∧ Below W.heap.size W w' := fun W h => by
    have k := recipe_Of t' I' A' B' ps' ds' c' e' f' W (hP.below h hP.1) ((hs'.below h).more h.size) ((hd'.below h).more h.size) hr'
    rw [hD] at k
    exact k
  have k3 : ∀ (W : World) (s : ByteArray), Below w.heap.size w W → s.size ≤ 1000 → Calls Tryd.prog 19 #[.string s] W fun e w' => e = .returned (.agg (dgv (ofL s.data.toList))) ∧ Below W.heap.size W w' := fun W s h hz => digest_Of s W (hP.below h hP.1) (by omega)
  have k5 : ∀ W : World, Below w.heap.size w W → Calls Tryd.prog 19 #[.string ⟨#[114, 101, 99, 105, 112, 101]⟩] W fun e w' => e = .returned (.agg #[.int .u32 (Z 0).toNat, .int .u32 (Z 1).toNat, .int .u32 (Z 2).toNat, .int .u32 (Z 3).toNat]) ∧ Below W.heap.size W w' := fun W h => by
    have k := k3 W ⟨#[114, 101, 99, 105, 112, 101]⟩ h (by decide)
    rw [show (⟨#[114, 101, 99, 105, 112, 101]⟩ : ByteArray).data.toList = nameL from rfl, hZ] at k
    exact k
  have k6 : ∀ W : World, Below w.heap.size w W → Calls Tryd.prog 20 #[.agg #[.int .u32 (X 0).toNat, .int .u32 (X 1).toNat, .int .u32 (X 2).toNat, .int .u32 (X 3).toNat], .agg #[.int .u32 (Z 0).toNat, .int .u32 (Z 1).toNat, .int .u32 (Z 2).toNat, .int .u32 (Z 3).toNat]] W fun e w' => e = .returned (.agg #[.int .u32 (C 0).toNat, .int .u32 (C 1).toNat, .int .u32 (C 2).toNat, .int .u32 (C 3).toNat]) ∧ Below W.heap.size W w' := fun W h => by
    have k := digest_Pair X Z W (hP.below h hP.1)
    rw [hXZ] at k
    exact k
  have k7 : ∀ W : World, Below w.heap.size w W → Calls Tryd.prog 20 #[.agg #[.int .u32 (Y 0).toNat, .int .u32 (Y 1).toNat, .int .u32 (Y 2).toNat, .int .u32 (Y 3).toNat], .agg #[.int .u32 (Z 0).toNat, .int .u32 (Z 1).toNat, .int .u32 (Z 2).toNat, .int .u32 (Z 3).toNat]] W fun e w' => e = .returned (.agg #[.int .u32 (D 0).toNat, .int .u32 (D 1).toNat, .int .u32 (D 2).toNat, .int .u32 (D 3).toNat]) ∧ Below W.heap.size W w' := fun W h => by
    have k := digest_Pair Y Z W (hP.below h hP.1)
    rw [hYZ] at k
    exact k
  rw [hC, hD] at hcd
  have heq1 := eqD_run C D
  rw [show eqD C D = false from hcd] at heq1
  unfold dgv at heq1
  simp only [wv] at heq1
  clear hcd
  have HLA := Lib.hid (show (bytesR t I ps ds f).length ≤ 900 by obtain ⟨_, _, h1, _, h2⟩ := rr_in hr; unfold bytesR; rw [List.length_cons, leBytes_length, wordsR_len]; omega)
  have HLB := Lib.hid (show (bytesR t' I' ps' ds' f').length ≤ 900 by obtain ⟨_, _, h1, _, h2⟩ := rr_in hr'; unfold bytesR; rw [List.length_cons, leBytes_length, wordsR_len]; omega)
  have K1 := Lib.hid k1
  have K2 := Lib.hid k2
  have K3 := Lib.hid k3
  have K4 := Lib.hid k4
  have K5 := Lib.hid k5
  have K6 := Lib.hid k6
  have K7 := Lib.hid k7
  have HLAB := Lib.hid hlab
  have HX := Lib.hid hX
  have HY := Lib.hid hY
  clear k1 k2 k3 k4 k5 k6 k7 hC hD hX hY hZ hXZ hYZ hQ hP hn1 hn2 hlab
  obtain ⟨_, _, n1, _, n2⟩ := rr_in hr
  obtain ⟨_, _, n3, _, n4⟩ := rr_in hr'
  have HR1 := Lib.hid hr
  have HR2 := Lib.hid hr'
  clear hr hr'
  have H0 := Lib.hid (Rb2.new w t I (.slice A ps.length c) (.slice B ds.length e) f t' I' (.slice A' ps'.length c') (.slice B' ds'.length e') f')
  go_enter Tryd.func5, Tryd.ntmps5
  go_wp2_with fail
  refine (awake_any _).mono ?_
  rintro r w1 ⟨rfl, hb1⟩
  have H1 := Lib.hid (H0.out.below hb1)
  clear H0 hb1
  obtain ⟨c0, c1, c2, c3, c4, c5, c6, c7, d0, d1, d2, d3, d4, d5, d6, d7⟩ := H1.out.all
  go_wp2_with fail
  refine (refR_Few t I A B ps.length c ds.length e f 20 _).mono ?_
  rintro r w2 ⟨he, hb2⟩
  have H2 := Lib.hid (H1.out.below hb2)
  clear H1 hb2 c0 c1 c2 c3 c4 c5 c6 c7 d0 d1 d2 d3 d4 d5 d6 d7
  rw [decide_eq_true ⟨by omega, by omega⟩] at he
  subst he
  obtain ⟨c0, c1, c2, c3, c4, c5, c6, c7, d0, d1, d2, d3, d4, d5, d6, d7⟩ := H2.out.all
  go_wp2_with fail
  refine (refR_Few t' I' A' B' ps'.length c' ds'.length e' f' 20 _).mono ?_
  rintro r w3 ⟨he, hb3⟩
  have H3 := Lib.hid (H2.out.below hb3)
  clear H2 hb3 c0 c1 c2 c3 c4 c5 c6 c7 d0 d1 d2 d3 d4 d5 d6 d7
  rw [decide_eq_true ⟨by omega, by omega⟩] at he
  subst he
  obtain ⟨c0, c1, c2, c3, c4, c5, c6, c7, d0, d1, d2, d3, d4, d5, d6, d7⟩ := H3.out.all
  go_wp2_with fail
  refine (refR_Right t I A B ps c ds.length e f _ ((hs.below H3.out.bel).more H3.out.bel.size) (by omega) (by omega)).mono ?_
  rintro r w4 ⟨he, hb4⟩
  have H4 := Lib.hid (H3.out.below hb4)
  clear H3 hb4 c0 c1 c2 c3 c4 c5 c6 c7 d0 d1 d2 d3 d4 d5 d6 d7
  rw [HR1.out] at he
  subst he
  obtain ⟨c0, c1, c2, c3, c4, c5, c6, c7, d0, d1, d2, d3, d4, d5, d6, d7⟩ := H4.out.all
  go_wp2_with fail
  refine (refR_Right t' I' A' B' ps' c' ds'.length e' f' _ ((hs'.below H4.out.bel).more H4.out.bel.size) (by omega) (by omega)).mono ?_
  rintro r w5 ⟨he, hb5⟩
  have H5 := Lib.hid (H4.out.below hb5)
  clear H4 hb5 c0 c1 c2 c3 c4 c5 c6 c7 d0 d1 d2 d3 d4 d5 d6 d7
  rw [HR2.out] at he
  subst he
  obtain ⟨c0, c1, c2, c3, c4, c5, c6, c7, d0, d1, d2, d3, d4, d5, d6, d7⟩ := H5.out.all
  go_wp2_with fail
  refine (recipe_Put t I A B ps ds c e f _ ((hs.below H5.out.bel).more H5.out.bel.size) ((hd.below H5.out.bel).more H5.out.bel.size) HR1.out).mono ?_
  rintro r w6 ⟨⟨s, rfl, hsl⟩, hb6⟩
  have H6 := Lib.hid (H5.out.below hb6)
  clear H5 hb6 c0 c1 c2 c3 c4 c5 c6 c7 d0 d1 d2 d3 d4 d5 d6 d7
  obtain ⟨c0, c1, c2, c3, c4, c5, c6, c7, d0, d1, d2, d3, d4, d5, d6, d7⟩ := H6.out.all
  go_wp2_with fail
  refine (recipe_Put t' I' A' B' ps' ds' c' e' f' _ ((hs'.below H6.out.bel).more H6.out.bel.size) ((hd'.below H6.out.bel).more H6.out.bel.size) HR2.out).mono ?_
  rintro r w7 ⟨⟨s2, rfl, htl⟩, hb7⟩
  have H7 := Lib.hid (H6.out.below hb7)
  clear H6 hb7 c0 c1 c2 c3 c4 c5 c6 c7 d0 d1 d2 d3 d4 d5 d6 d7
  have hne : ¬ s.toList = s2.toList := fun h => HLAB.out (by rw [← hsl.out, ← htl.out, ← ba_toList, ← ba_toList, h])
  have hneb : (s.toList == s2.toList) = false := by rw [beq_eq_false_iff_ne]; exact hne
  have kx : ∀ W : World, Below w.heap.size w W → Calls Tryd.prog 19 #[.string s] W fun e w' => e = .returned (.agg #[.int .u32 (X 0).toNat, .int .u32 (X 1).toNat, .int .u32 (X 2).toNat, .int .u32 (X 3).toNat]) ∧ Below W.heap.size W w' := fun W h => by
    have e1 : s.data.toList.length = s.size := rfl
    have k := K3.out W s h (by have := HLA.out; rw [hsl.out] at e1; omega)
    rw [hsl.out, HX.out] at k
    exact k
  have ky : ∀ W : World, Below w.heap.size w W → Calls Tryd.prog 19 #[.string s2] W fun e w' => e = .returned (.agg #[.int .u32 (Y 0).toNat, .int .u32 (Y 1).toNat, .int .u32 (Y 2).toNat, .int .u32 (Y 3).toNat]) ∧ Below W.heap.size W w' := fun W h => by
    have e1 : s2.data.toList.length = s2.size := rfl
    have k := K3.out W s2 h (by have := HLB.out; rw [htl.out] at e1; omega)
    rw [htl.out, HY.out] at k
    exact k
  have KX := Lib.hid kx
  have KY := Lib.hid ky
  clear kx ky K3
  obtain ⟨c0, c1, c2, c3, c4, c5, c6, c7, d0, d1, d2, d3, d4, d5, d6, d7⟩ := H7.out.all
  clear hs hs' hd hd' n1 n2 n3 n4
  go_wp2_with fail
  refine (K4.out _ H7.out.bel).mono ?_
  rintro r w8 ⟨rfl, hb8⟩
  have H8 := Lib.hid (H7.out.below hb8)
  clear H7 hb8 c0 c1 c2 c3 c4 c5 c6 c7 d0 d1 d2 d3 d4 d5 d6 d7
  obtain ⟨c0, c1, c2, c3, c4, c5, c6, c7, d0, d1, d2, d3, d4, d5, d6, d7⟩ := H8.out.all
  go_wp2_with fail
  refine (K1.out _ H8.out.bel).mono ?_
  rintro r w9 ⟨rfl, hb9⟩
  have H9 := Lib.hid ((H8.out.below hb9).below ((Below.refl _ w9).alloc (Nat.le_refl _) (.cells #[.int .u32 (C 0).toNat, .int .u32 (C 1).toNat, .int .u32 (C 2).toNat, .int .u32 (C 3).toNat] 24)))
  have hB0 := Lib.hid (Blk.new w9 24 #[.int .u32 (C 0).toNat, .int .u32 (C 1).toNat, .int .u32 (C 2).toNat, .int .u32 (C 3).toNat])
  clear H8 hb9 c0 c1 c2 c3 c4 c5 c6 c7 d0 d1 d2 d3 d4 d5 d6 d7
  obtain ⟨c0, c1, c2, c3, c4, c5, c6, c7, d0, d1, d2, d3, d4, d5, d6, d7⟩ := H9.out.all
  go_wp2_with fail
  generalize w9.heap.size = g0 at hB0 ⊢
  refine (K2.out _ H9.out.bel).mono ?_
  rintro r w10 ⟨rfl, hb10⟩
  have hA0 := Lib.hid ((hB0.out.below hb10 hB0.out.lt).alloc (.cells #[.int .u32 (D 0).toNat, .int .u32 (D 1).toNat, .int .u32 (D 2).toNat, .int .u32 (D 3).toNat] 24))
  have hA1 := Lib.hid (Blk.new w10 24 #[.int .u32 (D 0).toNat, .int .u32 (D 1).toNat, .int .u32 (D 2).toNat, .int .u32 (D 3).toNat])
  have HB1 := Lib.hid ((H9.out.below hb10).bel.alloc (H9.out.below hb10).bel.size (.cells #[.int .u32 (D 0).toNat, .int .u32 (D 1).toNat, .int .u32 (D 2).toNat, .int .u32 (D 3).toNat] 24))
  clear H9 hb10 hB0 c0 c1 c2 c3 c4 c5 c6 c7 d0 d1 d2 d3 d4 d5 d6 d7
  go_wp2_with fail
  generalize w10.heap.size = g1 at hA1 ⊢
  refine (KX.out _ HB1.out).mono ?_
  rintro r w11 ⟨rfl, hb11⟩
  have hB0 := Lib.hid ((hA0.out.below hb11 hA0.out.lt).alloc (.cells #[.int .u32 (X 0).toNat, .int .u32 (X 1).toNat, .int .u32 (X 2).toNat, .int .u32 (X 3).toNat] 24))
  have hB1 := Lib.hid ((hA1.out.below hb11 hA1.out.lt).alloc (.cells #[.int .u32 (X 0).toNat, .int .u32 (X 1).toNat, .int .u32 (X 2).toNat, .int .u32 (X 3).toNat] 24))
  have hB2 := Lib.hid (Blk.new w11 24 #[.int .u32 (X 0).toNat, .int .u32 (X 1).toNat, .int .u32 (X 2).toNat, .int .u32 (X 3).toNat])
  have HB2 := Lib.hid ((HB1.out.trans (hb11.mono HB1.out.size)).alloc (HB1.out.trans (hb11.mono HB1.out.size)).size (.cells #[.int .u32 (X 0).toNat, .int .u32 (X 1).toNat, .int .u32 (X 2).toNat, .int .u32 (X 3).toNat] 24))
  clear hA0 hA1 HB1 hb11
  go_wp2_with fail
  generalize w11.heap.size = g2 at hB2 ⊢
  refine (KY.out _ HB2.out).mono ?_
  rintro r w12 ⟨rfl, hb12⟩
  have hA0 := Lib.hid ((hB0.out.below hb12 hB0.out.lt).alloc (.cells #[.int .u32 (Y 0).toNat, .int .u32 (Y 1).toNat, .int .u32 (Y 2).toNat, .int .u32 (Y 3).toNat] 24))
  have hA1 := Lib.hid ((hB1.out.below hb12 hB1.out.lt).alloc (.cells #[.int .u32 (Y 0).toNat, .int .u32 (Y 1).toNat, .int .u32 (Y 2).toNat, .int .u32 (Y 3).toNat] 24))
  have hA2 := Lib.hid ((hB2.out.below hb12 hB2.out.lt).alloc (.cells #[.int .u32 (Y 0).toNat, .int .u32 (Y 1).toNat, .int .u32 (Y 2).toNat, .int .u32 (Y 3).toNat] 24))
  have hA3 := Lib.hid (Blk.new w12 24 #[.int .u32 (Y 0).toNat, .int .u32 (Y 1).toNat, .int .u32 (Y 2).toNat, .int .u32 (Y 3).toNat])
  have HB3 := Lib.hid ((HB2.out.trans (hb12.mono HB2.out.size)).alloc (HB2.out.trans (hb12.mono HB2.out.size)).size (.cells #[.int .u32 (Y 0).toNat, .int .u32 (Y 1).toNat, .int .u32 (Y 2).toNat, .int .u32 (Y 3).toNat] 24))
  clear hB0 hB1 hB2 HB2 hb12
  go_wp2_with fail
  generalize w12.heap.size = g3 at hA3 ⊢
  refine (K5.out _ HB3.out).mono ?_
  rintro r w13 ⟨rfl, hb13⟩
  have hF := D5.mk ((hA0.out.below hb13 hA0.out.lt).alloc (.cells #[.int .u32 (Z 0).toNat, .int .u32 (Z 1).toNat, .int .u32 (Z 2).toNat, .int .u32 (Z 3).toNat] 24)) ((hA1.out.below hb13 hA1.out.lt).alloc (.cells #[.int .u32 (Z 0).toNat, .int .u32 (Z 1).toNat, .int .u32 (Z 2).toNat, .int .u32 (Z 3).toNat] 24)) ((hA2.out.below hb13 hA2.out.lt).alloc (.cells #[.int .u32 (Z 0).toNat, .int .u32 (Z 1).toNat, .int .u32 (Z 2).toNat, .int .u32 (Z 3).toNat] 24)) ((hA3.out.below hb13 hA3.out.lt).alloc (.cells #[.int .u32 (Z 0).toNat, .int .u32 (Z 1).toNat, .int .u32 (Z 2).toNat, .int .u32 (Z 3).toNat] 24)) (Blk.new w13 24 #[.int .u32 (Z 0).toNat, .int .u32 (Z 1).toNat, .int .u32 (Z 2).toNat, .int .u32 (Z 3).toNat]) ((HB3.out.trans (hb13.mono HB3.out.size)).alloc (HB3.out.trans (hb13.mono HB3.out.size)).size (.cells #[.int .u32 (Z 0).toNat, .int .u32 (Z 1).toNat, .int .u32 (Z 2).toNat, .int .u32 (Z 3).toNat] 24))
  clear hA0 hA1 hA2 hA3 HB3 hb13
  go_wp2_with fail
  generalize w13.heap.size = g4 at hF ⊢
  generalize World.alloc w13 _ = W0 at hF ⊢
  refine wp_region_held_drew (S := (fun w' => w'.cell? ⟨g0, 0, none⟩ = some (.int .u32 (C 0).toNat) ∧ w'.cell? ⟨g0, 1, none⟩ = some (.int .u32 (C 1).toNat) ∧ w'.cell? ⟨g0, 2, none⟩ = some (.int .u32 (C 2).toNat) ∧ w'.cell? ⟨g0, 3, none⟩ = some (.int .u32 (C 3).toNat) ∧ w'.cell? ⟨g1, 0, none⟩ = some (.int .u32 (D 0).toNat) ∧ w'.cell? ⟨g1, 1, none⟩ = some (.int .u32 (D 1).toNat) ∧ w'.cell? ⟨g1, 2, none⟩ = some (.int .u32 (D 2).toNat) ∧ w'.cell? ⟨g1, 3, none⟩ = some (.int .u32 (D 3).toNat) ∧ w'.cell? ⟨g2, 0, none⟩ = some (.int .u32 (X 0).toNat) ∧ w'.cell? ⟨g2, 1, none⟩ = some (.int .u32 (X 1).toNat) ∧ w'.cell? ⟨g2, 2, none⟩ = some (.int .u32 (X 2).toNat) ∧ w'.cell? ⟨g2, 3, none⟩ = some (.int .u32 (X 3).toNat) ∧ w'.cell? ⟨g3, 0, none⟩ = some (.int .u32 (Y 0).toNat) ∧ w'.cell? ⟨g3, 1, none⟩ = some (.int .u32 (Y 1).toNat) ∧ w'.cell? ⟨g3, 2, none⟩ = some (.int .u32 (Y 2).toNat) ∧ w'.cell? ⟨g3, 3, none⟩ = some (.int .u32 (Y 3).toNat) ∧ w'.cell? ⟨g4, 0, none⟩ = some (.int .u32 (Z 0).toNat) ∧ w'.cell? ⟨g4, 1, none⟩ = some (.int .u32 (Z 1).toNat) ∧ w'.cell? ⟨g4, 2, none⟩ = some (.int .u32 (Z 2).toNat) ∧ w'.cell? ⟨g4, 3, none⟩ = some (.int .u32 (Z 3).toNat) ∧ D5 w g0 g1 g2 g3 g4 C D X Y Z w')) (by kernel_rfl) hF.drew.held (fun hHeld => ?_)
  refine wpAnyH_take (i := 0) (v := ?_) rfl (by kernel_rfl) (by kernel_rfl) (by kernel_rfl) (fun _ _ _ h => h) (Or.inl ⟨by kernel_rfl, ?_⟩) (by assumption) ?_
  rotate_left
  · intro w hSw; (try dsimp only at hSw); go_simp; (try with_reducible rfl)
  try simp only [Act.put, List.getElem_toArray, List.getElem_cons_zero, List.setIfInBounds_toArray, List.set_cons_zero, List.set_cons_succ]
  refine wpAnyH_take (i := 1) (v := ?_) rfl (by kernel_rfl) (by kernel_rfl) (by kernel_rfl) (fun _ _ _ h => h) (Or.inl ⟨by kernel_rfl, ?_⟩) (by assumption) ?_
  rotate_left
  · intro w hSw; (try dsimp only at hSw); go_simp; (try with_reducible rfl)
  try simp only [Act.put, List.getElem_toArray, List.getElem_cons_succ, List.getElem_cons_zero, List.setIfInBounds_toArray, List.set_cons_zero, List.set_cons_succ]
  refine wpAnyH_take (i := 2) (v := ?_) rfl (by kernel_rfl) (by kernel_rfl) (by kernel_rfl) (fun _ _ _ h => h) (Or.inl ⟨by kernel_rfl, ?_⟩) (by assumption) ?_
  rotate_left
  · intro w hSw; (try dsimp only at hSw); go_simp; (try with_reducible rfl)
  try simp only [Act.put, List.getElem_toArray, List.getElem_cons_succ, List.getElem_cons_zero, List.setIfInBounds_toArray, List.set_cons_zero, List.set_cons_succ]
  refine wpAnyH_take (i := 3) (v := ?_) rfl (by kernel_rfl) (by kernel_rfl) (by kernel_rfl) (fun _ _ _ h => h) (Or.inl ⟨by kernel_rfl, ?_⟩) (by assumption) ?_
  rotate_left
  · intro w hSw; (try dsimp only at hSw); go_simp; (try with_reducible rfl)
  try simp only [Act.put, List.getElem_toArray, List.getElem_cons_succ, List.getElem_cons_zero, List.setIfInBounds_toArray, List.set_cons_zero, List.set_cons_succ]
  refine wpAnyH_take (i := 4) (v := undef) rfl (by kernel_rfl) (by kernel_rfl) (by kernel_rfl) (fun _ _ _ h => h) (Or.inr ⟨by kernel_rfl, rfl⟩) (by assumption) ?_
  try simp only [Act.put, List.getElem_toArray, List.getElem_cons_succ, List.getElem_cons_zero, List.setIfInBounds_toArray, List.set_cons_zero, List.set_cons_succ]
  refine wpAnyH_take (i := 5) (v := undef) rfl (by kernel_rfl) (by kernel_rfl) (by kernel_rfl) (fun _ _ _ h => h) (Or.inr ⟨by kernel_rfl, rfl⟩) (by assumption) ?_
  try simp only [Act.put, List.getElem_toArray, List.getElem_cons_succ, List.getElem_cons_zero, List.setIfInBounds_toArray, List.set_cons_zero, List.set_cons_succ]
  refine wpAnyH_take (i := 6) (v := undef) rfl (by kernel_rfl) (by kernel_rfl) (by kernel_rfl) (fun _ _ _ h => h) (Or.inr ⟨by kernel_rfl, rfl⟩) (by assumption) ?_
  try simp only [Act.put, List.getElem_toArray, List.getElem_cons_succ, List.getElem_cons_zero, List.setIfInBounds_toArray, List.set_cons_zero, List.set_cons_succ]
  refine wpAnyH_take (i := 7) (v := ?_) rfl (by kernel_rfl) (by kernel_rfl) (by kernel_rfl) (fun _ _ _ h => h) (Or.inl ⟨by kernel_rfl, ?_⟩) (by assumption) ?_
  rotate_left
  · intro w hSw; (try dsimp only at hSw); go_simp; (try with_reducible rfl)
  try simp only [Act.put, List.getElem_toArray, List.getElem_cons_succ, List.getElem_cons_zero, List.setIfInBounds_toArray, List.set_cons_zero, List.set_cons_succ]
  refine wpAnyH_take (i := 8) (v := ?_) rfl (by kernel_rfl) (by kernel_rfl) (by kernel_rfl) (fun _ _ _ h => h) (Or.inl ⟨by kernel_rfl, ?_⟩) (by assumption) ?_
  rotate_left
  · intro w hSw; (try dsimp only at hSw); go_simp; (try with_reducible rfl)
  try simp only [Act.put, List.getElem_toArray, List.getElem_cons_succ, List.getElem_cons_zero, List.setIfInBounds_toArray, List.set_cons_zero, List.set_cons_succ]
  refine wpAnyH_take (i := 9) (v := undef) rfl (by kernel_rfl) (by kernel_rfl) (by kernel_rfl) (fun _ _ _ h => h) (Or.inr ⟨by kernel_rfl, rfl⟩) (by assumption) ?_
  try simp only [Act.put, List.getElem_toArray, List.getElem_cons_succ, List.getElem_cons_zero, List.setIfInBounds_toArray, List.set_cons_zero, List.set_cons_succ]
  refine wpAnyH_take (i := 10) (v := undef) rfl (by kernel_rfl) (by kernel_rfl) (by kernel_rfl) (fun _ _ _ h => h) (Or.inr ⟨by kernel_rfl, rfl⟩) (by assumption) ?_
  try simp only [Act.put, List.getElem_toArray, List.getElem_cons_succ, List.getElem_cons_zero, List.setIfInBounds_toArray, List.set_cons_zero, List.set_cons_succ]
  refine wpAnyH_take (i := 11) (v := undef) rfl (by kernel_rfl) (by kernel_rfl) (by kernel_rfl) (fun _ _ _ h => h) (Or.inr ⟨by kernel_rfl, rfl⟩) (by assumption) ?_
  try simp only [Act.put, List.getElem_toArray, List.getElem_cons_succ, List.getElem_cons_zero, List.setIfInBounds_toArray, List.set_cons_zero, List.set_cons_succ]
  refine wpAnyH_take (i := 12) (v := undef) rfl (by kernel_rfl) (by kernel_rfl) (by kernel_rfl) (fun _ _ _ h => h) (Or.inr ⟨by kernel_rfl, rfl⟩) (by assumption) ?_
  try simp only [Act.put, List.getElem_toArray, List.getElem_cons_succ, List.getElem_cons_zero, List.setIfInBounds_toArray, List.set_cons_zero, List.set_cons_succ]
  refine wpAnyH_take (i := 13) (v := undef) rfl (by kernel_rfl) (by kernel_rfl) (by kernel_rfl) (fun _ _ _ h => h) (Or.inr ⟨by kernel_rfl, rfl⟩) (by assumption) ?_
  try simp only [Act.put, List.getElem_toArray, List.getElem_cons_succ, List.getElem_cons_zero, List.setIfInBounds_toArray, List.set_cons_zero, List.set_cons_succ]
  refine wpAnyH_take (i := 14) (v := undef) rfl (by kernel_rfl) (by kernel_rfl) (by kernel_rfl) (fun _ _ _ h => h) (Or.inr ⟨by kernel_rfl, rfl⟩) (by assumption) ?_
  try simp only [Act.put, List.getElem_toArray, List.getElem_cons_succ, List.getElem_cons_zero, List.setIfInBounds_toArray, List.set_cons_zero, List.set_cons_succ]
  refine wpAnyH_take (i := 15) (v := undef) rfl (by kernel_rfl) (by kernel_rfl) (by kernel_rfl) (fun _ _ _ h => h) (Or.inr ⟨by kernel_rfl, rfl⟩) (by assumption) ?_
  try simp only [Act.put, List.getElem_toArray, List.getElem_cons_succ, List.getElem_cons_zero, List.setIfInBounds_toArray, List.set_cons_zero, List.set_cons_succ]
  refine wpAnyH_take (i := 16) (v := ?_) rfl (by kernel_rfl) (by kernel_rfl) (by kernel_rfl) (fun _ _ _ h => h) (Or.inl ⟨by kernel_rfl, ?_⟩) (by assumption) ?_
  rotate_left
  · intro w hSw; (try dsimp only at hSw); go_simp; (try with_reducible rfl)
  try simp only [Act.put, List.getElem_toArray, List.getElem_cons_succ, List.getElem_cons_zero, List.setIfInBounds_toArray, List.set_cons_zero, List.set_cons_succ]
  refine wpAnyH_take (i := 17) (v := ?_) rfl (by kernel_rfl) (by kernel_rfl) (by kernel_rfl) (fun _ _ _ h => h) (Or.inl ⟨by kernel_rfl, ?_⟩) (by assumption) ?_
  rotate_left
  · intro w hSw; (try dsimp only at hSw); go_simp; (try with_reducible rfl)
  try simp only [Act.put, List.getElem_toArray, List.getElem_cons_succ, List.getElem_cons_zero, List.setIfInBounds_toArray, List.set_cons_zero, List.set_cons_succ]
  refine wpAnyH_done (by kernel_rfl) ?_ _
  go_wp2_with fail
  go_returns
  exact ⟨ret_bool (by simp), (hF.bel.drew)⟩

set_option maxRecDepth 100000 in
set_option maxHeartbeats 4000000 in
theorem rapart_x (t t' : Int) (I I' : Nat → UInt32) (A B A' B' : Option Addr) (ps ps' : List Int) (ds ds' : List (Nat → UInt32)) (c e c' e' : Nat) (f f' : Int) (w : World) (hs : Sl w w.heap.size A ps.length (ps.map iv)) (hs' : Sl w w.heap.size A' ps'.length (ps'.map iv)) (hd : Sd w w.heap.size B ds) (hd' : Sd w w.heap.size B' ds') (hP : Places w) (hr : rightR t I ps ds.length f = true) (hr' : rightR t' I' ps' ds'.length f' = true) (hQ : sameR t t' I I' f f' ps ps' ds ds' = false) (hcd : eqD (ofRL (bytesR t I ps ds f)) (ofRL (bytesR t' I' ps' ds' f')) = true) (hxy : eqD (ofL (bytesR t I ps ds f)) (ofL (bytesR t' I' ps' ds' f')) = true) :
    Calls Tryd.prog 5 #[.agg #[.int .i64 t, .int .u32 (I 0).toNat, .int .u32 (I 1).toNat, .int .u32 (I 2).toNat, .int .u32 (I 3).toNat, .slice A ps.length c, .slice B ds.length e, .int .i64 f], .agg #[.int .i64 t', .int .u32 (I' 0).toNat, .int .u32 (I' 1).toNat, .int .u32 (I' 2).toNat, .int .u32 (I' 3).toNat, .slice A' ps'.length c', .slice B' ds'.length e', .int .i64 f']] w fun r w' => r = .returned (.bool true) ∧ Below w.heap.size w w' := by
  have hlab : bytesR t I ps ds f ≠ bytesR t' I' ps' ds' f' := fun h => by
    rw [words_inj hr hr' (bytesR_eq.1 h)] at hQ
    cases hQ
  obtain ⟨C, hC⟩ : ∃ C, ofRL (bytesR t I ps ds f) = C := ⟨_, rfl⟩
  obtain ⟨D, hD⟩ : ∃ D, ofRL (bytesR t' I' ps' ds' f') = D := ⟨_, rfl⟩
  obtain ⟨X, hX⟩ : ∃ X, ofL (bytesR t I ps ds f) = X := ⟨_, rfl⟩
  obtain ⟨Y, hY⟩ : ∃ Y, ofL (bytesR t' I' ps' ds' f') = Y := ⟨_, rfl⟩
  obtain ⟨Z, hZ⟩ : ∃ Z, ofL nameL = Z := ⟨_, rfl⟩
  have hXZ : pairD X Z = C := by rw [← hC, ← hX, ← hZ]; rfl
  have hYZ : pairD Y Z = D := by rw [← hD, ← hY, ← hZ]; rfl
  have hn1 : ps.length ≤ 1000000 := by have := (rr_in hr).2.2.1; omega
  have hn2 : ds.length ≤ 1000000 := by have := (rr_in hr).2.2.2.2; omega
  have k4 := fun (W : World) (h : Below w.heap.size w W) => refR_Same t t' I I' A B A' B' ps ps' ds ds' c e c' e' f f' W ((hs.below h).more h.size) ((hs'.below h).more h.size) ((hd.below h).more h.size) ((hd'.below h).more h.size) (by omega) (by omega)
  rw [hQ] at k4
  have k1 : ∀ W : World, Below w.heap.size w W → Calls Tryd.prog 13 #[.agg #[.int .i64 t, .int .u32 (I 0).toNat, .int .u32 (I 1).toNat, .int .u32 (I 2).toNat, .int .u32 (I 3).toNat, .slice A ps.length c, .slice B ds.length e, .int .i64 f]] W fun r w' => r = .returned (.tuple #[.agg #[.int .u32 (C 0).toNat, .int .u32 (C 1).toNat, .int .u32 (C 2).toNat, .int .u32 (C 3).toNat], .int .i64 0]) ∧ Below W.heap.size W w' := fun W h => by
    have k := recipe_Of t I A B ps ds c e f W (hP.below h hP.1) ((hs.below h).more h.size) ((hd.below h).more h.size) hr
    rw [hC] at k
    exact k
  have k2 : ∀ W : World, Below w.heap.size w W → Calls Tryd.prog 13 #[.agg #[.int .i64 t', .int .u32 (I' 0).toNat, .int .u32 (I' 1).toNat, .int .u32 (I' 2).toNat, .int .u32 (I' 3).toNat, .slice A' ps'.length c', .slice B' ds'.length e', .int .i64 f']] W fun r w' => r = .returned (.tuple #[.agg #[.int .u32 (D 0).toNat, .int .u32 (D 1).toNat, .int .u32 (D 2).toNat, .int .u32 (D 3).toNat], .int .i64 0]) ∧ Below W.heap.size W w' := fun W h => by
    have k := recipe_Of t' I' A' B' ps' ds' c' e' f' W (hP.below h hP.1) ((hs'.below h).more h.size) ((hd'.below h).more h.size) hr'
    rw [hD] at k
    exact k
  have k3 : ∀ (W : World) (s : ByteArray), Below w.heap.size w W → s.size ≤ 1000 → Calls Tryd.prog 19 #[.string s] W fun e w' => e = .returned (.agg (dgv (ofL s.data.toList))) ∧ Below W.heap.size W w' := fun W s h hz => digest_Of s W (hP.below h hP.1) (by omega)
  have k5 : ∀ W : World, Below w.heap.size w W → Calls Tryd.prog 19 #[.string ⟨#[114, 101, 99, 105, 112, 101]⟩] W fun e w' => e = .returned (.agg #[.int .u32 (Z 0).toNat, .int .u32 (Z 1).toNat, .int .u32 (Z 2).toNat, .int .u32 (Z 3).toNat]) ∧ Below W.heap.size W w' := fun W h => by
    have k := k3 W ⟨#[114, 101, 99, 105, 112, 101]⟩ h (by decide)
    rw [show (⟨#[114, 101, 99, 105, 112, 101]⟩ : ByteArray).data.toList = nameL from rfl, hZ] at k
    exact k
  have k6 : ∀ W : World, Below w.heap.size w W → Calls Tryd.prog 20 #[.agg #[.int .u32 (X 0).toNat, .int .u32 (X 1).toNat, .int .u32 (X 2).toNat, .int .u32 (X 3).toNat], .agg #[.int .u32 (Z 0).toNat, .int .u32 (Z 1).toNat, .int .u32 (Z 2).toNat, .int .u32 (Z 3).toNat]] W fun e w' => e = .returned (.agg #[.int .u32 (C 0).toNat, .int .u32 (C 1).toNat, .int .u32 (C 2).toNat, .int .u32 (C 3).toNat]) ∧ Below W.heap.size W w' := fun W h => by
    have k := digest_Pair X Z W (hP.below h hP.1)
    rw [hXZ] at k
    exact k
  have k7 : ∀ W : World, Below w.heap.size w W → Calls Tryd.prog 20 #[.agg #[.int .u32 (Y 0).toNat, .int .u32 (Y 1).toNat, .int .u32 (Y 2).toNat, .int .u32 (Y 3).toNat], .agg #[.int .u32 (Z 0).toNat, .int .u32 (Z 1).toNat, .int .u32 (Z 2).toNat, .int .u32 (Z 3).toNat]] W fun e w' => e = .returned (.agg #[.int .u32 (D 0).toNat, .int .u32 (D 1).toNat, .int .u32 (D 2).toNat, .int .u32 (D 3).toNat]) ∧ Below W.heap.size W w' := fun W h => by
    have k := digest_Pair Y Z W (hP.below h hP.1)
    rw [hYZ] at k
    exact k
  rw [hC, hD] at hcd
  rw [hX, hY] at hxy
  have heq1 := eqD_run C D
  rw [show eqD C D = true from hcd] at heq1
  unfold dgv at heq1
  simp only [wv] at heq1
  have heq2 := eqD_run X Y
  rw [show eqD X Y = true from hxy] at heq2
  unfold dgv at heq2
  simp only [wv] at heq2
  clear hcd hxy
  have HLA := Lib.hid (show (bytesR t I ps ds f).length ≤ 900 by obtain ⟨_, _, h1, _, h2⟩ := rr_in hr; unfold bytesR; rw [List.length_cons, leBytes_length, wordsR_len]; omega)
  have HLB := Lib.hid (show (bytesR t' I' ps' ds' f').length ≤ 900 by obtain ⟨_, _, h1, _, h2⟩ := rr_in hr'; unfold bytesR; rw [List.length_cons, leBytes_length, wordsR_len]; omega)
  have K1 := Lib.hid k1
  have K2 := Lib.hid k2
  have K3 := Lib.hid k3
  have K4 := Lib.hid k4
  have K5 := Lib.hid k5
  have K6 := Lib.hid k6
  have K7 := Lib.hid k7
  have HLAB := Lib.hid hlab
  have HX := Lib.hid hX
  have HY := Lib.hid hY
  clear k1 k2 k3 k4 k5 k6 k7 hC hD hX hY hZ hXZ hYZ hQ hP hn1 hn2 hlab
  obtain ⟨_, _, n1, _, n2⟩ := rr_in hr
  obtain ⟨_, _, n3, _, n4⟩ := rr_in hr'
  have HR1 := Lib.hid hr
  have HR2 := Lib.hid hr'
  clear hr hr'
  have H0 := Lib.hid (Rb2.new w t I (.slice A ps.length c) (.slice B ds.length e) f t' I' (.slice A' ps'.length c') (.slice B' ds'.length e') f')
  go_enter Tryd.func5, Tryd.ntmps5
  go_wp2_with fail
  refine (awake_any _).mono ?_
  rintro r w1 ⟨rfl, hb1⟩
  have H1 := Lib.hid (H0.out.below hb1)
  clear H0 hb1
  obtain ⟨c0, c1, c2, c3, c4, c5, c6, c7, d0, d1, d2, d3, d4, d5, d6, d7⟩ := H1.out.all
  go_wp2_with fail
  refine (refR_Few t I A B ps.length c ds.length e f 20 _).mono ?_
  rintro r w2 ⟨he, hb2⟩
  have H2 := Lib.hid (H1.out.below hb2)
  clear H1 hb2 c0 c1 c2 c3 c4 c5 c6 c7 d0 d1 d2 d3 d4 d5 d6 d7
  rw [decide_eq_true ⟨by omega, by omega⟩] at he
  subst he
  obtain ⟨c0, c1, c2, c3, c4, c5, c6, c7, d0, d1, d2, d3, d4, d5, d6, d7⟩ := H2.out.all
  go_wp2_with fail
  refine (refR_Few t' I' A' B' ps'.length c' ds'.length e' f' 20 _).mono ?_
  rintro r w3 ⟨he, hb3⟩
  have H3 := Lib.hid (H2.out.below hb3)
  clear H2 hb3 c0 c1 c2 c3 c4 c5 c6 c7 d0 d1 d2 d3 d4 d5 d6 d7
  rw [decide_eq_true ⟨by omega, by omega⟩] at he
  subst he
  obtain ⟨c0, c1, c2, c3, c4, c5, c6, c7, d0, d1, d2, d3, d4, d5, d6, d7⟩ := H3.out.all
  go_wp2_with fail
  refine (refR_Right t I A B ps c ds.length e f _ ((hs.below H3.out.bel).more H3.out.bel.size) (by omega) (by omega)).mono ?_
  rintro r w4 ⟨he, hb4⟩
  have H4 := Lib.hid (H3.out.below hb4)
  clear H3 hb4 c0 c1 c2 c3 c4 c5 c6 c7 d0 d1 d2 d3 d4 d5 d6 d7
  rw [HR1.out] at he
  subst he
  obtain ⟨c0, c1, c2, c3, c4, c5, c6, c7, d0, d1, d2, d3, d4, d5, d6, d7⟩ := H4.out.all
  go_wp2_with fail
  refine (refR_Right t' I' A' B' ps' c' ds'.length e' f' _ ((hs'.below H4.out.bel).more H4.out.bel.size) (by omega) (by omega)).mono ?_
  rintro r w5 ⟨he, hb5⟩
  have H5 := Lib.hid (H4.out.below hb5)
  clear H4 hb5 c0 c1 c2 c3 c4 c5 c6 c7 d0 d1 d2 d3 d4 d5 d6 d7
  rw [HR2.out] at he
  subst he
  obtain ⟨c0, c1, c2, c3, c4, c5, c6, c7, d0, d1, d2, d3, d4, d5, d6, d7⟩ := H5.out.all
  go_wp2_with fail
  refine (recipe_Put t I A B ps ds c e f _ ((hs.below H5.out.bel).more H5.out.bel.size) ((hd.below H5.out.bel).more H5.out.bel.size) HR1.out).mono ?_
  rintro r w6 ⟨⟨s, rfl, hsl⟩, hb6⟩
  have H6 := Lib.hid (H5.out.below hb6)
  clear H5 hb6 c0 c1 c2 c3 c4 c5 c6 c7 d0 d1 d2 d3 d4 d5 d6 d7
  obtain ⟨c0, c1, c2, c3, c4, c5, c6, c7, d0, d1, d2, d3, d4, d5, d6, d7⟩ := H6.out.all
  go_wp2_with fail
  refine (recipe_Put t' I' A' B' ps' ds' c' e' f' _ ((hs'.below H6.out.bel).more H6.out.bel.size) ((hd'.below H6.out.bel).more H6.out.bel.size) HR2.out).mono ?_
  rintro r w7 ⟨⟨s2, rfl, htl⟩, hb7⟩
  have H7 := Lib.hid (H6.out.below hb7)
  clear H6 hb7 c0 c1 c2 c3 c4 c5 c6 c7 d0 d1 d2 d3 d4 d5 d6 d7
  have hne : ¬ s.toList = s2.toList := fun h => HLAB.out (by rw [← hsl.out, ← htl.out, ← ba_toList, ← ba_toList, h])
  have hneb : (s.toList == s2.toList) = false := by rw [beq_eq_false_iff_ne]; exact hne
  have kx : ∀ W : World, Below w.heap.size w W → Calls Tryd.prog 19 #[.string s] W fun e w' => e = .returned (.agg #[.int .u32 (X 0).toNat, .int .u32 (X 1).toNat, .int .u32 (X 2).toNat, .int .u32 (X 3).toNat]) ∧ Below W.heap.size W w' := fun W h => by
    have e1 : s.data.toList.length = s.size := rfl
    have k := K3.out W s h (by have := HLA.out; rw [hsl.out] at e1; omega)
    rw [hsl.out, HX.out] at k
    exact k
  have ky : ∀ W : World, Below w.heap.size w W → Calls Tryd.prog 19 #[.string s2] W fun e w' => e = .returned (.agg #[.int .u32 (Y 0).toNat, .int .u32 (Y 1).toNat, .int .u32 (Y 2).toNat, .int .u32 (Y 3).toNat]) ∧ Below W.heap.size W w' := fun W h => by
    have e1 : s2.data.toList.length = s2.size := rfl
    have k := K3.out W s2 h (by have := HLB.out; rw [htl.out] at e1; omega)
    rw [htl.out, HY.out] at k
    exact k
  have KX := Lib.hid kx
  have KY := Lib.hid ky
  clear kx ky K3
  obtain ⟨c0, c1, c2, c3, c4, c5, c6, c7, d0, d1, d2, d3, d4, d5, d6, d7⟩ := H7.out.all
  clear hs hs' hd hd' n1 n2 n3 n4
  go_wp2_with fail
  refine (K4.out _ H7.out.bel).mono ?_
  rintro r w8 ⟨rfl, hb8⟩
  have H8 := Lib.hid (H7.out.below hb8)
  clear H7 hb8 c0 c1 c2 c3 c4 c5 c6 c7 d0 d1 d2 d3 d4 d5 d6 d7
  obtain ⟨c0, c1, c2, c3, c4, c5, c6, c7, d0, d1, d2, d3, d4, d5, d6, d7⟩ := H8.out.all
  go_wp2_with fail
  refine (K1.out _ H8.out.bel).mono ?_
  rintro r w9 ⟨rfl, hb9⟩
  have H9 := Lib.hid ((H8.out.below hb9).below ((Below.refl _ w9).alloc (Nat.le_refl _) (.cells #[.int .u32 (C 0).toNat, .int .u32 (C 1).toNat, .int .u32 (C 2).toNat, .int .u32 (C 3).toNat] 24)))
  have hB0 := Lib.hid (Blk.new w9 24 #[.int .u32 (C 0).toNat, .int .u32 (C 1).toNat, .int .u32 (C 2).toNat, .int .u32 (C 3).toNat])
  clear H8 hb9 c0 c1 c2 c3 c4 c5 c6 c7 d0 d1 d2 d3 d4 d5 d6 d7
  obtain ⟨c0, c1, c2, c3, c4, c5, c6, c7, d0, d1, d2, d3, d4, d5, d6, d7⟩ := H9.out.all
  go_wp2_with fail
  generalize w9.heap.size = g0 at hB0 ⊢
  refine (K2.out _ H9.out.bel).mono ?_
  rintro r w10 ⟨rfl, hb10⟩
  have hA0 := Lib.hid ((hB0.out.below hb10 hB0.out.lt).alloc (.cells #[.int .u32 (D 0).toNat, .int .u32 (D 1).toNat, .int .u32 (D 2).toNat, .int .u32 (D 3).toNat] 24))
  have hA1 := Lib.hid (Blk.new w10 24 #[.int .u32 (D 0).toNat, .int .u32 (D 1).toNat, .int .u32 (D 2).toNat, .int .u32 (D 3).toNat])
  have HB1 := Lib.hid ((H9.out.below hb10).bel.alloc (H9.out.below hb10).bel.size (.cells #[.int .u32 (D 0).toNat, .int .u32 (D 1).toNat, .int .u32 (D 2).toNat, .int .u32 (D 3).toNat] 24))
  clear H9 hb10 hB0 c0 c1 c2 c3 c4 c5 c6 c7 d0 d1 d2 d3 d4 d5 d6 d7
  go_wp2_with fail
  generalize w10.heap.size = g1 at hA1 ⊢
  refine (KX.out _ HB1.out).mono ?_
  rintro r w11 ⟨rfl, hb11⟩
  have hB0 := Lib.hid ((hA0.out.below hb11 hA0.out.lt).alloc (.cells #[.int .u32 (X 0).toNat, .int .u32 (X 1).toNat, .int .u32 (X 2).toNat, .int .u32 (X 3).toNat] 24))
  have hB1 := Lib.hid ((hA1.out.below hb11 hA1.out.lt).alloc (.cells #[.int .u32 (X 0).toNat, .int .u32 (X 1).toNat, .int .u32 (X 2).toNat, .int .u32 (X 3).toNat] 24))
  have hB2 := Lib.hid (Blk.new w11 24 #[.int .u32 (X 0).toNat, .int .u32 (X 1).toNat, .int .u32 (X 2).toNat, .int .u32 (X 3).toNat])
  have HB2 := Lib.hid ((HB1.out.trans (hb11.mono HB1.out.size)).alloc (HB1.out.trans (hb11.mono HB1.out.size)).size (.cells #[.int .u32 (X 0).toNat, .int .u32 (X 1).toNat, .int .u32 (X 2).toNat, .int .u32 (X 3).toNat] 24))
  clear hA0 hA1 HB1 hb11
  go_wp2_with fail
  generalize w11.heap.size = g2 at hB2 ⊢
  refine (KY.out _ HB2.out).mono ?_
  rintro r w12 ⟨rfl, hb12⟩
  have hA0 := Lib.hid ((hB0.out.below hb12 hB0.out.lt).alloc (.cells #[.int .u32 (Y 0).toNat, .int .u32 (Y 1).toNat, .int .u32 (Y 2).toNat, .int .u32 (Y 3).toNat] 24))
  have hA1 := Lib.hid ((hB1.out.below hb12 hB1.out.lt).alloc (.cells #[.int .u32 (Y 0).toNat, .int .u32 (Y 1).toNat, .int .u32 (Y 2).toNat, .int .u32 (Y 3).toNat] 24))
  have hA2 := Lib.hid ((hB2.out.below hb12 hB2.out.lt).alloc (.cells #[.int .u32 (Y 0).toNat, .int .u32 (Y 1).toNat, .int .u32 (Y 2).toNat, .int .u32 (Y 3).toNat] 24))
  have hA3 := Lib.hid (Blk.new w12 24 #[.int .u32 (Y 0).toNat, .int .u32 (Y 1).toNat, .int .u32 (Y 2).toNat, .int .u32 (Y 3).toNat])
  have HB3 := Lib.hid ((HB2.out.trans (hb12.mono HB2.out.size)).alloc (HB2.out.trans (hb12.mono HB2.out.size)).size (.cells #[.int .u32 (Y 0).toNat, .int .u32 (Y 1).toNat, .int .u32 (Y 2).toNat, .int .u32 (Y 3).toNat] 24))
  clear hB0 hB1 hB2 HB2 hb12
  go_wp2_with fail
  generalize w12.heap.size = g3 at hA3 ⊢
  refine (K5.out _ HB3.out).mono ?_
  rintro r w13 ⟨rfl, hb13⟩
  have hF := D5.mk ((hA0.out.below hb13 hA0.out.lt).alloc (.cells #[.int .u32 (Z 0).toNat, .int .u32 (Z 1).toNat, .int .u32 (Z 2).toNat, .int .u32 (Z 3).toNat] 24)) ((hA1.out.below hb13 hA1.out.lt).alloc (.cells #[.int .u32 (Z 0).toNat, .int .u32 (Z 1).toNat, .int .u32 (Z 2).toNat, .int .u32 (Z 3).toNat] 24)) ((hA2.out.below hb13 hA2.out.lt).alloc (.cells #[.int .u32 (Z 0).toNat, .int .u32 (Z 1).toNat, .int .u32 (Z 2).toNat, .int .u32 (Z 3).toNat] 24)) ((hA3.out.below hb13 hA3.out.lt).alloc (.cells #[.int .u32 (Z 0).toNat, .int .u32 (Z 1).toNat, .int .u32 (Z 2).toNat, .int .u32 (Z 3).toNat] 24)) (Blk.new w13 24 #[.int .u32 (Z 0).toNat, .int .u32 (Z 1).toNat, .int .u32 (Z 2).toNat, .int .u32 (Z 3).toNat]) ((HB3.out.trans (hb13.mono HB3.out.size)).alloc (HB3.out.trans (hb13.mono HB3.out.size)).size (.cells #[.int .u32 (Z 0).toNat, .int .u32 (Z 1).toNat, .int .u32 (Z 2).toNat, .int .u32 (Z 3).toNat] 24))
  clear hA0 hA1 hA2 hA3 HB3 hb13
  go_wp2_with fail
  generalize w13.heap.size = g4 at hF ⊢
  generalize World.alloc w13 _ = W0 at hF ⊢
  refine wp_region_held_drew (S := (fun w' => w'.cell? ⟨g0, 0, none⟩ = some (.int .u32 (C 0).toNat) ∧ w'.cell? ⟨g0, 1, none⟩ = some (.int .u32 (C 1).toNat) ∧ w'.cell? ⟨g0, 2, none⟩ = some (.int .u32 (C 2).toNat) ∧ w'.cell? ⟨g0, 3, none⟩ = some (.int .u32 (C 3).toNat) ∧ w'.cell? ⟨g1, 0, none⟩ = some (.int .u32 (D 0).toNat) ∧ w'.cell? ⟨g1, 1, none⟩ = some (.int .u32 (D 1).toNat) ∧ w'.cell? ⟨g1, 2, none⟩ = some (.int .u32 (D 2).toNat) ∧ w'.cell? ⟨g1, 3, none⟩ = some (.int .u32 (D 3).toNat) ∧ w'.cell? ⟨g2, 0, none⟩ = some (.int .u32 (X 0).toNat) ∧ w'.cell? ⟨g2, 1, none⟩ = some (.int .u32 (X 1).toNat) ∧ w'.cell? ⟨g2, 2, none⟩ = some (.int .u32 (X 2).toNat) ∧ w'.cell? ⟨g2, 3, none⟩ = some (.int .u32 (X 3).toNat) ∧ w'.cell? ⟨g3, 0, none⟩ = some (.int .u32 (Y 0).toNat) ∧ w'.cell? ⟨g3, 1, none⟩ = some (.int .u32 (Y 1).toNat) ∧ w'.cell? ⟨g3, 2, none⟩ = some (.int .u32 (Y 2).toNat) ∧ w'.cell? ⟨g3, 3, none⟩ = some (.int .u32 (Y 3).toNat) ∧ w'.cell? ⟨g4, 0, none⟩ = some (.int .u32 (Z 0).toNat) ∧ w'.cell? ⟨g4, 1, none⟩ = some (.int .u32 (Z 1).toNat) ∧ w'.cell? ⟨g4, 2, none⟩ = some (.int .u32 (Z 2).toNat) ∧ w'.cell? ⟨g4, 3, none⟩ = some (.int .u32 (Z 3).toNat) ∧ D5 w g0 g1 g2 g3 g4 C D X Y Z w')) (by kernel_rfl) hF.drew.held (fun hHeld => ?_)
  refine wpAnyH_take (i := 0) (v := ?_) rfl (by kernel_rfl) (by kernel_rfl) (by kernel_rfl) (fun _ _ _ h => h) (Or.inl ⟨by kernel_rfl, ?_⟩) (by assumption) ?_
  rotate_left
  · intro w hSw; (try dsimp only at hSw); go_simp; (try with_reducible rfl)
  try simp only [Act.put, List.getElem_toArray, List.getElem_cons_zero, List.setIfInBounds_toArray, List.set_cons_zero, List.set_cons_succ]
  refine wpAnyH_take (i := 1) (v := ?_) rfl (by kernel_rfl) (by kernel_rfl) (by kernel_rfl) (fun _ _ _ h => h) (Or.inl ⟨by kernel_rfl, ?_⟩) (by assumption) ?_
  rotate_left
  · intro w hSw; (try dsimp only at hSw); go_simp; (try with_reducible rfl)
  try simp only [Act.put, List.getElem_toArray, List.getElem_cons_succ, List.getElem_cons_zero, List.setIfInBounds_toArray, List.set_cons_zero, List.set_cons_succ]
  refine wpAnyH_take (i := 2) (v := ?_) rfl (by kernel_rfl) (by kernel_rfl) (by kernel_rfl) (fun _ _ _ h => h) (Or.inl ⟨by kernel_rfl, ?_⟩) (by assumption) ?_
  rotate_left
  · intro w hSw; (try dsimp only at hSw); go_simp; (try with_reducible rfl)
  try simp only [Act.put, List.getElem_toArray, List.getElem_cons_succ, List.getElem_cons_zero, List.setIfInBounds_toArray, List.set_cons_zero, List.set_cons_succ]
  refine wpAnyH_take (i := 3) (v := ?_) rfl (by kernel_rfl) (by kernel_rfl) (by kernel_rfl) (fun _ _ _ h => h) (Or.inl ⟨by kernel_rfl, ?_⟩) (by assumption) ?_
  rotate_left
  · intro w hSw; (try dsimp only at hSw); go_simp; (try with_reducible rfl)
  try simp only [Act.put, List.getElem_toArray, List.getElem_cons_succ, List.getElem_cons_zero, List.setIfInBounds_toArray, List.set_cons_zero, List.set_cons_succ]
  refine wpAnyH_take (i := 4) (v := ?_) rfl (by kernel_rfl) (by kernel_rfl) (by kernel_rfl) (fun _ _ _ h => h) (Or.inl ⟨by kernel_rfl, ?_⟩) (by assumption) ?_
  rotate_left
  · intro w hSw; (try dsimp only at hSw); go_simp; (try with_reducible rfl)
  try simp only [Act.put, List.getElem_toArray, List.getElem_cons_succ, List.getElem_cons_zero, List.setIfInBounds_toArray, List.set_cons_zero, List.set_cons_succ]
  refine wpAnyH_take (i := 5) (v := ?_) rfl (by kernel_rfl) (by kernel_rfl) (by kernel_rfl) (fun _ _ _ h => h) (Or.inl ⟨by kernel_rfl, ?_⟩) (by assumption) ?_
  rotate_left
  · intro w hSw; (try dsimp only at hSw); go_simp; (try with_reducible rfl)
  try simp only [Act.put, List.getElem_toArray, List.getElem_cons_succ, List.getElem_cons_zero, List.setIfInBounds_toArray, List.set_cons_zero, List.set_cons_succ]
  refine wpAnyH_take (i := 6) (v := ?_) rfl (by kernel_rfl) (by kernel_rfl) (by kernel_rfl) (fun _ _ _ h => h) (Or.inl ⟨by kernel_rfl, ?_⟩) (by assumption) ?_
  rotate_left
  · intro w hSw; (try dsimp only at hSw); go_simp; (try with_reducible rfl)
  try simp only [Act.put, List.getElem_toArray, List.getElem_cons_succ, List.getElem_cons_zero, List.setIfInBounds_toArray, List.set_cons_zero, List.set_cons_succ]
  refine wpAnyH_take (i := 7) (v := ?_) rfl (by kernel_rfl) (by kernel_rfl) (by kernel_rfl) (fun _ _ _ h => h) (Or.inl ⟨by kernel_rfl, ?_⟩) (by assumption) ?_
  rotate_left
  · intro w hSw; (try dsimp only at hSw); go_simp; (try with_reducible rfl)
  try simp only [Act.put, List.getElem_toArray, List.getElem_cons_succ, List.getElem_cons_zero, List.setIfInBounds_toArray, List.set_cons_zero, List.set_cons_succ]
  refine wpAnyH_take (i := 8) (v := ?_) rfl (by kernel_rfl) (by kernel_rfl) (by kernel_rfl) (fun _ _ _ h => h) (Or.inl ⟨by kernel_rfl, ?_⟩) (by assumption) ?_
  rotate_left
  · intro w hSw; (try dsimp only at hSw); go_simp; (try with_reducible rfl)
  try simp only [Act.put, List.getElem_toArray, List.getElem_cons_succ, List.getElem_cons_zero, List.setIfInBounds_toArray, List.set_cons_zero, List.set_cons_succ]
  refine wpAnyH_take (i := 9) (v := undef) rfl (by kernel_rfl) (by kernel_rfl) (by kernel_rfl) (fun _ _ _ h => h) (Or.inr ⟨by kernel_rfl, rfl⟩) (by assumption) ?_
  try simp only [Act.put, List.getElem_toArray, List.getElem_cons_succ, List.getElem_cons_zero, List.setIfInBounds_toArray, List.set_cons_zero, List.set_cons_succ]
  refine wpAnyH_take (i := 10) (v := undef) rfl (by kernel_rfl) (by kernel_rfl) (by kernel_rfl) (fun _ _ _ h => h) (Or.inr ⟨by kernel_rfl, rfl⟩) (by assumption) ?_
  try simp only [Act.put, List.getElem_toArray, List.getElem_cons_succ, List.getElem_cons_zero, List.setIfInBounds_toArray, List.set_cons_zero, List.set_cons_succ]
  refine wpAnyH_take (i := 11) (v := undef) rfl (by kernel_rfl) (by kernel_rfl) (by kernel_rfl) (fun _ _ _ h => h) (Or.inr ⟨by kernel_rfl, rfl⟩) (by assumption) ?_
  try simp only [Act.put, List.getElem_toArray, List.getElem_cons_succ, List.getElem_cons_zero, List.setIfInBounds_toArray, List.set_cons_zero, List.set_cons_succ]
  refine wpAnyH_take (i := 12) (v := undef) rfl (by kernel_rfl) (by kernel_rfl) (by kernel_rfl) (fun _ _ _ h => h) (Or.inr ⟨by kernel_rfl, rfl⟩) (by assumption) ?_
  try simp only [Act.put, List.getElem_toArray, List.getElem_cons_succ, List.getElem_cons_zero, List.setIfInBounds_toArray, List.set_cons_zero, List.set_cons_succ]
  refine wpAnyH_take (i := 13) (v := undef) rfl (by kernel_rfl) (by kernel_rfl) (by kernel_rfl) (fun _ _ _ h => h) (Or.inr ⟨by kernel_rfl, rfl⟩) (by assumption) ?_
  try simp only [Act.put, List.getElem_toArray, List.getElem_cons_succ, List.getElem_cons_zero, List.setIfInBounds_toArray, List.set_cons_zero, List.set_cons_succ]
  refine wpAnyH_take (i := 14) (v := undef) rfl (by kernel_rfl) (by kernel_rfl) (by kernel_rfl) (fun _ _ _ h => h) (Or.inr ⟨by kernel_rfl, rfl⟩) (by assumption) ?_
  try simp only [Act.put, List.getElem_toArray, List.getElem_cons_succ, List.getElem_cons_zero, List.setIfInBounds_toArray, List.set_cons_zero, List.set_cons_succ]
  refine wpAnyH_take (i := 15) (v := undef) rfl (by kernel_rfl) (by kernel_rfl) (by kernel_rfl) (fun _ _ _ h => h) (Or.inr ⟨by kernel_rfl, rfl⟩) (by assumption) ?_
  try simp only [Act.put, List.getElem_toArray, List.getElem_cons_succ, List.getElem_cons_zero, List.setIfInBounds_toArray, List.set_cons_zero, List.set_cons_succ]
  refine wpAnyH_take (i := 16) (v := ?_) rfl (by kernel_rfl) (by kernel_rfl) (by kernel_rfl) (fun _ _ _ h => h) (Or.inl ⟨by kernel_rfl, ?_⟩) (by assumption) ?_
  rotate_left
  · intro w hSw; (try dsimp only at hSw); go_simp; (try with_reducible rfl)
  try simp only [Act.put, List.getElem_toArray, List.getElem_cons_succ, List.getElem_cons_zero, List.setIfInBounds_toArray, List.set_cons_zero, List.set_cons_succ]
  refine wpAnyH_take (i := 17) (v := ?_) rfl (by kernel_rfl) (by kernel_rfl) (by kernel_rfl) (fun _ _ _ h => h) (Or.inl ⟨by kernel_rfl, ?_⟩) (by assumption) ?_
  rotate_left
  · intro w hSw; (try dsimp only at hSw); go_simp; (try with_reducible rfl)
  try simp only [Act.put, List.getElem_toArray, List.getElem_cons_succ, List.getElem_cons_zero, List.setIfInBounds_toArray, List.set_cons_zero, List.set_cons_succ]
  refine wpAnyH_done (by kernel_rfl) ?_ _
  go_wp2_with fail
  go_returns
  exact ⟨ret_bool (by simp), (hF.bel.drew)⟩

set_option maxRecDepth 100000 in
set_option maxHeartbeats 4000000 in
theorem rapart_p (t t' : Int) (I I' : Nat → UInt32) (A B A' B' : Option Addr) (ps ps' : List Int) (ds ds' : List (Nat → UInt32)) (c e c' e' : Nat) (f f' : Int) (w : World) (hs : Sl w w.heap.size A ps.length (ps.map iv)) (hs' : Sl w w.heap.size A' ps'.length (ps'.map iv)) (hd : Sd w w.heap.size B ds) (hd' : Sd w w.heap.size B' ds') (hP : Places w) (hr : rightR t I ps ds.length f = true) (hr' : rightR t' I' ps' ds'.length f' = true) (hQ : sameR t t' I I' f f' ps ps' ds ds' = false) (hcd : eqD (ofRL (bytesR t I ps ds f)) (ofRL (bytesR t' I' ps' ds' f')) = true) (hxy : eqD (ofL (bytesR t I ps ds f)) (ofL (bytesR t' I' ps' ds' f')) = false) :
    Calls Tryd.prog 5 #[.agg #[.int .i64 t, .int .u32 (I 0).toNat, .int .u32 (I 1).toNat, .int .u32 (I 2).toNat, .int .u32 (I 3).toNat, .slice A ps.length c, .slice B ds.length e, .int .i64 f], .agg #[.int .i64 t', .int .u32 (I' 0).toNat, .int .u32 (I' 1).toNat, .int .u32 (I' 2).toNat, .int .u32 (I' 3).toNat, .slice A' ps'.length c', .slice B' ds'.length e', .int .i64 f']] w fun r w' => r = .returned (.bool true) ∧ Below w.heap.size w w' := by
  have hlab : bytesR t I ps ds f ≠ bytesR t' I' ps' ds' f' := fun h => by
    rw [words_inj hr hr' (bytesR_eq.1 h)] at hQ
    cases hQ
  obtain ⟨C, hC⟩ : ∃ C, ofRL (bytesR t I ps ds f) = C := ⟨_, rfl⟩
  obtain ⟨D, hD⟩ : ∃ D, ofRL (bytesR t' I' ps' ds' f') = D := ⟨_, rfl⟩
  obtain ⟨X, hX⟩ : ∃ X, ofL (bytesR t I ps ds f) = X := ⟨_, rfl⟩
  obtain ⟨Y, hY⟩ : ∃ Y, ofL (bytesR t' I' ps' ds' f') = Y := ⟨_, rfl⟩
  obtain ⟨Z, hZ⟩ : ∃ Z, ofL nameL = Z := ⟨_, rfl⟩
  have hXZ : pairD X Z = C := by rw [← hC, ← hX, ← hZ]; rfl
  have hYZ : pairD Y Z = D := by rw [← hD, ← hY, ← hZ]; rfl
  have hn1 : ps.length ≤ 1000000 := by have := (rr_in hr).2.2.1; omega
  have hn2 : ds.length ≤ 1000000 := by have := (rr_in hr).2.2.2.2; omega
  have k4 := fun (W : World) (h : Below w.heap.size w W) => refR_Same t t' I I' A B A' B' ps ps' ds ds' c e c' e' f f' W ((hs.below h).more h.size) ((hs'.below h).more h.size) ((hd.below h).more h.size) ((hd'.below h).more h.size) (by omega) (by omega)
  rw [hQ] at k4
  have k1 : ∀ W : World, Below w.heap.size w W → Calls Tryd.prog 13 #[.agg #[.int .i64 t, .int .u32 (I 0).toNat, .int .u32 (I 1).toNat, .int .u32 (I 2).toNat, .int .u32 (I 3).toNat, .slice A ps.length c, .slice B ds.length e, .int .i64 f]] W fun r w' => r = .returned (.tuple #[.agg #[.int .u32 (C 0).toNat, .int .u32 (C 1).toNat, .int .u32 (C 2).toNat, .int .u32 (C 3).toNat], .int .i64 0]) ∧ Below W.heap.size W w' := fun W h => by
    have k := recipe_Of t I A B ps ds c e f W (hP.below h hP.1) ((hs.below h).more h.size) ((hd.below h).more h.size) hr
    rw [hC] at k
    exact k
  have k2 : ∀ W : World, Below w.heap.size w W → Calls Tryd.prog 13 #[.agg #[.int .i64 t', .int .u32 (I' 0).toNat, .int .u32 (I' 1).toNat, .int .u32 (I' 2).toNat, .int .u32 (I' 3).toNat, .slice A' ps'.length c', .slice B' ds'.length e', .int .i64 f']] W fun r w' => r = .returned (.tuple #[.agg #[.int .u32 (D 0).toNat, .int .u32 (D 1).toNat, .int .u32 (D 2).toNat, .int .u32 (D 3).toNat], .int .i64 0]) ∧ Below W.heap.size W w' := fun W h => by
    have k := recipe_Of t' I' A' B' ps' ds' c' e' f' W (hP.below h hP.1) ((hs'.below h).more h.size) ((hd'.below h).more h.size) hr'
    rw [hD] at k
    exact k
  have k3 : ∀ (W : World) (s : ByteArray), Below w.heap.size w W → s.size ≤ 1000 → Calls Tryd.prog 19 #[.string s] W fun e w' => e = .returned (.agg (dgv (ofL s.data.toList))) ∧ Below W.heap.size W w' := fun W s h hz => digest_Of s W (hP.below h hP.1) (by omega)
  have k5 : ∀ W : World, Below w.heap.size w W → Calls Tryd.prog 19 #[.string ⟨#[114, 101, 99, 105, 112, 101]⟩] W fun e w' => e = .returned (.agg #[.int .u32 (Z 0).toNat, .int .u32 (Z 1).toNat, .int .u32 (Z 2).toNat, .int .u32 (Z 3).toNat]) ∧ Below W.heap.size W w' := fun W h => by
    have k := k3 W ⟨#[114, 101, 99, 105, 112, 101]⟩ h (by decide)
    rw [show (⟨#[114, 101, 99, 105, 112, 101]⟩ : ByteArray).data.toList = nameL from rfl, hZ] at k
    exact k
  have k6 : ∀ W : World, Below w.heap.size w W → Calls Tryd.prog 20 #[.agg #[.int .u32 (X 0).toNat, .int .u32 (X 1).toNat, .int .u32 (X 2).toNat, .int .u32 (X 3).toNat], .agg #[.int .u32 (Z 0).toNat, .int .u32 (Z 1).toNat, .int .u32 (Z 2).toNat, .int .u32 (Z 3).toNat]] W fun e w' => e = .returned (.agg #[.int .u32 (C 0).toNat, .int .u32 (C 1).toNat, .int .u32 (C 2).toNat, .int .u32 (C 3).toNat]) ∧ Below W.heap.size W w' := fun W h => by
    have k := digest_Pair X Z W (hP.below h hP.1)
    rw [hXZ] at k
    exact k
  have k7 : ∀ W : World, Below w.heap.size w W → Calls Tryd.prog 20 #[.agg #[.int .u32 (Y 0).toNat, .int .u32 (Y 1).toNat, .int .u32 (Y 2).toNat, .int .u32 (Y 3).toNat], .agg #[.int .u32 (Z 0).toNat, .int .u32 (Z 1).toNat, .int .u32 (Z 2).toNat, .int .u32 (Z 3).toNat]] W fun e w' => e = .returned (.agg #[.int .u32 (D 0).toNat, .int .u32 (D 1).toNat, .int .u32 (D 2).toNat, .int .u32 (D 3).toNat]) ∧ Below W.heap.size W w' := fun W h => by
    have k := digest_Pair Y Z W (hP.below h hP.1)
    rw [hYZ] at k
    exact k
  rw [hC, hD] at hcd
  rw [hX, hY] at hxy
  have heq1 := eqD_run C D
  rw [show eqD C D = true from hcd] at heq1
  unfold dgv at heq1
  simp only [wv] at heq1
  have heq2 := eqD_run X Y
  rw [show eqD X Y = false from hxy] at heq2
  unfold dgv at heq2
  simp only [wv] at heq2
  clear hcd hxy
  have HLA := Lib.hid (show (bytesR t I ps ds f).length ≤ 900 by obtain ⟨_, _, h1, _, h2⟩ := rr_in hr; unfold bytesR; rw [List.length_cons, leBytes_length, wordsR_len]; omega)
  have HLB := Lib.hid (show (bytesR t' I' ps' ds' f').length ≤ 900 by obtain ⟨_, _, h1, _, h2⟩ := rr_in hr'; unfold bytesR; rw [List.length_cons, leBytes_length, wordsR_len]; omega)
  have K1 := Lib.hid k1
  have K2 := Lib.hid k2
  have K3 := Lib.hid k3
  have K4 := Lib.hid k4
  have K5 := Lib.hid k5
  have K6 := Lib.hid k6
  have K7 := Lib.hid k7
  have HLAB := Lib.hid hlab
  have HX := Lib.hid hX
  have HY := Lib.hid hY
  clear k1 k2 k3 k4 k5 k6 k7 hC hD hX hY hZ hXZ hYZ hQ hP hn1 hn2 hlab
  obtain ⟨_, _, n1, _, n2⟩ := rr_in hr
  obtain ⟨_, _, n3, _, n4⟩ := rr_in hr'
  have HR1 := Lib.hid hr
  have HR2 := Lib.hid hr'
  clear hr hr'
  have H0 := Lib.hid (Rb2.new w t I (.slice A ps.length c) (.slice B ds.length e) f t' I' (.slice A' ps'.length c') (.slice B' ds'.length e') f')
  go_enter Tryd.func5, Tryd.ntmps5
  go_wp2_with fail
  refine (awake_any _).mono ?_
  rintro r w1 ⟨rfl, hb1⟩
  have H1 := Lib.hid (H0.out.below hb1)
  clear H0 hb1
  obtain ⟨c0, c1, c2, c3, c4, c5, c6, c7, d0, d1, d2, d3, d4, d5, d6, d7⟩ := H1.out.all
  go_wp2_with fail
  refine (refR_Few t I A B ps.length c ds.length e f 20 _).mono ?_
  rintro r w2 ⟨he, hb2⟩
  have H2 := Lib.hid (H1.out.below hb2)
  clear H1 hb2 c0 c1 c2 c3 c4 c5 c6 c7 d0 d1 d2 d3 d4 d5 d6 d7
  rw [decide_eq_true ⟨by omega, by omega⟩] at he
  subst he
  obtain ⟨c0, c1, c2, c3, c4, c5, c6, c7, d0, d1, d2, d3, d4, d5, d6, d7⟩ := H2.out.all
  go_wp2_with fail
  refine (refR_Few t' I' A' B' ps'.length c' ds'.length e' f' 20 _).mono ?_
  rintro r w3 ⟨he, hb3⟩
  have H3 := Lib.hid (H2.out.below hb3)
  clear H2 hb3 c0 c1 c2 c3 c4 c5 c6 c7 d0 d1 d2 d3 d4 d5 d6 d7
  rw [decide_eq_true ⟨by omega, by omega⟩] at he
  subst he
  obtain ⟨c0, c1, c2, c3, c4, c5, c6, c7, d0, d1, d2, d3, d4, d5, d6, d7⟩ := H3.out.all
  go_wp2_with fail
  refine (refR_Right t I A B ps c ds.length e f _ ((hs.below H3.out.bel).more H3.out.bel.size) (by omega) (by omega)).mono ?_
  rintro r w4 ⟨he, hb4⟩
  have H4 := Lib.hid (H3.out.below hb4)
  clear H3 hb4 c0 c1 c2 c3 c4 c5 c6 c7 d0 d1 d2 d3 d4 d5 d6 d7
  rw [HR1.out] at he
  subst he
  obtain ⟨c0, c1, c2, c3, c4, c5, c6, c7, d0, d1, d2, d3, d4, d5, d6, d7⟩ := H4.out.all
  go_wp2_with fail
  refine (refR_Right t' I' A' B' ps' c' ds'.length e' f' _ ((hs'.below H4.out.bel).more H4.out.bel.size) (by omega) (by omega)).mono ?_
  rintro r w5 ⟨he, hb5⟩
  have H5 := Lib.hid (H4.out.below hb5)
  clear H4 hb5 c0 c1 c2 c3 c4 c5 c6 c7 d0 d1 d2 d3 d4 d5 d6 d7
  rw [HR2.out] at he
  subst he
  obtain ⟨c0, c1, c2, c3, c4, c5, c6, c7, d0, d1, d2, d3, d4, d5, d6, d7⟩ := H5.out.all
  go_wp2_with fail
  refine (recipe_Put t I A B ps ds c e f _ ((hs.below H5.out.bel).more H5.out.bel.size) ((hd.below H5.out.bel).more H5.out.bel.size) HR1.out).mono ?_
  rintro r w6 ⟨⟨s, rfl, hsl⟩, hb6⟩
  have H6 := Lib.hid (H5.out.below hb6)
  clear H5 hb6 c0 c1 c2 c3 c4 c5 c6 c7 d0 d1 d2 d3 d4 d5 d6 d7
  obtain ⟨c0, c1, c2, c3, c4, c5, c6, c7, d0, d1, d2, d3, d4, d5, d6, d7⟩ := H6.out.all
  go_wp2_with fail
  refine (recipe_Put t' I' A' B' ps' ds' c' e' f' _ ((hs'.below H6.out.bel).more H6.out.bel.size) ((hd'.below H6.out.bel).more H6.out.bel.size) HR2.out).mono ?_
  rintro r w7 ⟨⟨s2, rfl, htl⟩, hb7⟩
  have H7 := Lib.hid (H6.out.below hb7)
  clear H6 hb7 c0 c1 c2 c3 c4 c5 c6 c7 d0 d1 d2 d3 d4 d5 d6 d7
  have hne : ¬ s.toList = s2.toList := fun h => HLAB.out (by rw [← hsl.out, ← htl.out, ← ba_toList, ← ba_toList, h])
  have hneb : (s.toList == s2.toList) = false := by rw [beq_eq_false_iff_ne]; exact hne
  have kx : ∀ W : World, Below w.heap.size w W → Calls Tryd.prog 19 #[.string s] W fun e w' => e = .returned (.agg #[.int .u32 (X 0).toNat, .int .u32 (X 1).toNat, .int .u32 (X 2).toNat, .int .u32 (X 3).toNat]) ∧ Below W.heap.size W w' := fun W h => by
    have e1 : s.data.toList.length = s.size := rfl
    have k := K3.out W s h (by have := HLA.out; rw [hsl.out] at e1; omega)
    rw [hsl.out, HX.out] at k
    exact k
  have ky : ∀ W : World, Below w.heap.size w W → Calls Tryd.prog 19 #[.string s2] W fun e w' => e = .returned (.agg #[.int .u32 (Y 0).toNat, .int .u32 (Y 1).toNat, .int .u32 (Y 2).toNat, .int .u32 (Y 3).toNat]) ∧ Below W.heap.size W w' := fun W h => by
    have e1 : s2.data.toList.length = s2.size := rfl
    have k := K3.out W s2 h (by have := HLB.out; rw [htl.out] at e1; omega)
    rw [htl.out, HY.out] at k
    exact k
  have KX := Lib.hid kx
  have KY := Lib.hid ky
  clear kx ky K3
  obtain ⟨c0, c1, c2, c3, c4, c5, c6, c7, d0, d1, d2, d3, d4, d5, d6, d7⟩ := H7.out.all
  clear hs hs' hd hd' n1 n2 n3 n4
  go_wp2_with fail
  refine (K4.out _ H7.out.bel).mono ?_
  rintro r w8 ⟨rfl, hb8⟩
  have H8 := Lib.hid (H7.out.below hb8)
  clear H7 hb8 c0 c1 c2 c3 c4 c5 c6 c7 d0 d1 d2 d3 d4 d5 d6 d7
  obtain ⟨c0, c1, c2, c3, c4, c5, c6, c7, d0, d1, d2, d3, d4, d5, d6, d7⟩ := H8.out.all
  go_wp2_with fail
  refine (K1.out _ H8.out.bel).mono ?_
  rintro r w9 ⟨rfl, hb9⟩
  have H9 := Lib.hid ((H8.out.below hb9).below ((Below.refl _ w9).alloc (Nat.le_refl _) (.cells #[.int .u32 (C 0).toNat, .int .u32 (C 1).toNat, .int .u32 (C 2).toNat, .int .u32 (C 3).toNat] 24)))
  have hB0 := Lib.hid (Blk.new w9 24 #[.int .u32 (C 0).toNat, .int .u32 (C 1).toNat, .int .u32 (C 2).toNat, .int .u32 (C 3).toNat])
  clear H8 hb9 c0 c1 c2 c3 c4 c5 c6 c7 d0 d1 d2 d3 d4 d5 d6 d7
  obtain ⟨c0, c1, c2, c3, c4, c5, c6, c7, d0, d1, d2, d3, d4, d5, d6, d7⟩ := H9.out.all
  go_wp2_with fail
  generalize w9.heap.size = g0 at hB0 ⊢
  refine (K2.out _ H9.out.bel).mono ?_
  rintro r w10 ⟨rfl, hb10⟩
  have hA0 := Lib.hid ((hB0.out.below hb10 hB0.out.lt).alloc (.cells #[.int .u32 (D 0).toNat, .int .u32 (D 1).toNat, .int .u32 (D 2).toNat, .int .u32 (D 3).toNat] 24))
  have hA1 := Lib.hid (Blk.new w10 24 #[.int .u32 (D 0).toNat, .int .u32 (D 1).toNat, .int .u32 (D 2).toNat, .int .u32 (D 3).toNat])
  have HB1 := Lib.hid ((H9.out.below hb10).bel.alloc (H9.out.below hb10).bel.size (.cells #[.int .u32 (D 0).toNat, .int .u32 (D 1).toNat, .int .u32 (D 2).toNat, .int .u32 (D 3).toNat] 24))
  clear H9 hb10 hB0 c0 c1 c2 c3 c4 c5 c6 c7 d0 d1 d2 d3 d4 d5 d6 d7
  go_wp2_with fail
  generalize w10.heap.size = g1 at hA1 ⊢
  refine (KX.out _ HB1.out).mono ?_
  rintro r w11 ⟨rfl, hb11⟩
  have hB0 := Lib.hid ((hA0.out.below hb11 hA0.out.lt).alloc (.cells #[.int .u32 (X 0).toNat, .int .u32 (X 1).toNat, .int .u32 (X 2).toNat, .int .u32 (X 3).toNat] 24))
  have hB1 := Lib.hid ((hA1.out.below hb11 hA1.out.lt).alloc (.cells #[.int .u32 (X 0).toNat, .int .u32 (X 1).toNat, .int .u32 (X 2).toNat, .int .u32 (X 3).toNat] 24))
  have hB2 := Lib.hid (Blk.new w11 24 #[.int .u32 (X 0).toNat, .int .u32 (X 1).toNat, .int .u32 (X 2).toNat, .int .u32 (X 3).toNat])
  have HB2 := Lib.hid ((HB1.out.trans (hb11.mono HB1.out.size)).alloc (HB1.out.trans (hb11.mono HB1.out.size)).size (.cells #[.int .u32 (X 0).toNat, .int .u32 (X 1).toNat, .int .u32 (X 2).toNat, .int .u32 (X 3).toNat] 24))
  clear hA0 hA1 HB1 hb11
  go_wp2_with fail
  generalize w11.heap.size = g2 at hB2 ⊢
  refine (KY.out _ HB2.out).mono ?_
  rintro r w12 ⟨rfl, hb12⟩
  have hA0 := Lib.hid ((hB0.out.below hb12 hB0.out.lt).alloc (.cells #[.int .u32 (Y 0).toNat, .int .u32 (Y 1).toNat, .int .u32 (Y 2).toNat, .int .u32 (Y 3).toNat] 24))
  have hA1 := Lib.hid ((hB1.out.below hb12 hB1.out.lt).alloc (.cells #[.int .u32 (Y 0).toNat, .int .u32 (Y 1).toNat, .int .u32 (Y 2).toNat, .int .u32 (Y 3).toNat] 24))
  have hA2 := Lib.hid ((hB2.out.below hb12 hB2.out.lt).alloc (.cells #[.int .u32 (Y 0).toNat, .int .u32 (Y 1).toNat, .int .u32 (Y 2).toNat, .int .u32 (Y 3).toNat] 24))
  have hA3 := Lib.hid (Blk.new w12 24 #[.int .u32 (Y 0).toNat, .int .u32 (Y 1).toNat, .int .u32 (Y 2).toNat, .int .u32 (Y 3).toNat])
  have HB3 := Lib.hid ((HB2.out.trans (hb12.mono HB2.out.size)).alloc (HB2.out.trans (hb12.mono HB2.out.size)).size (.cells #[.int .u32 (Y 0).toNat, .int .u32 (Y 1).toNat, .int .u32 (Y 2).toNat, .int .u32 (Y 3).toNat] 24))
  clear hB0 hB1 hB2 HB2 hb12
  go_wp2_with fail
  generalize w12.heap.size = g3 at hA3 ⊢
  refine (K5.out _ HB3.out).mono ?_
  rintro r w13 ⟨rfl, hb13⟩
  have hF := D5.mk ((hA0.out.below hb13 hA0.out.lt).alloc (.cells #[.int .u32 (Z 0).toNat, .int .u32 (Z 1).toNat, .int .u32 (Z 2).toNat, .int .u32 (Z 3).toNat] 24)) ((hA1.out.below hb13 hA1.out.lt).alloc (.cells #[.int .u32 (Z 0).toNat, .int .u32 (Z 1).toNat, .int .u32 (Z 2).toNat, .int .u32 (Z 3).toNat] 24)) ((hA2.out.below hb13 hA2.out.lt).alloc (.cells #[.int .u32 (Z 0).toNat, .int .u32 (Z 1).toNat, .int .u32 (Z 2).toNat, .int .u32 (Z 3).toNat] 24)) ((hA3.out.below hb13 hA3.out.lt).alloc (.cells #[.int .u32 (Z 0).toNat, .int .u32 (Z 1).toNat, .int .u32 (Z 2).toNat, .int .u32 (Z 3).toNat] 24)) (Blk.new w13 24 #[.int .u32 (Z 0).toNat, .int .u32 (Z 1).toNat, .int .u32 (Z 2).toNat, .int .u32 (Z 3).toNat]) ((HB3.out.trans (hb13.mono HB3.out.size)).alloc (HB3.out.trans (hb13.mono HB3.out.size)).size (.cells #[.int .u32 (Z 0).toNat, .int .u32 (Z 1).toNat, .int .u32 (Z 2).toNat, .int .u32 (Z 3).toNat] 24))
  clear hA0 hA1 hA2 hA3 HB3 hb13
  go_wp2_with fail
  generalize w13.heap.size = g4 at hF ⊢
  generalize World.alloc w13 _ = W0 at hF ⊢
  go_region_held3 (fun w' => w'.cell? ⟨g0, 0, none⟩ = some (.int .u32 (C 0).toNat) ∧ w'.cell? ⟨g0, 1, none⟩ = some (.int .u32 (C 1).toNat) ∧ w'.cell? ⟨g0, 2, none⟩ = some (.int .u32 (C 2).toNat) ∧ w'.cell? ⟨g0, 3, none⟩ = some (.int .u32 (C 3).toNat) ∧ w'.cell? ⟨g1, 0, none⟩ = some (.int .u32 (D 0).toNat) ∧ w'.cell? ⟨g1, 1, none⟩ = some (.int .u32 (D 1).toNat) ∧ w'.cell? ⟨g1, 2, none⟩ = some (.int .u32 (D 2).toNat) ∧ w'.cell? ⟨g1, 3, none⟩ = some (.int .u32 (D 3).toNat) ∧ w'.cell? ⟨g2, 0, none⟩ = some (.int .u32 (X 0).toNat) ∧ w'.cell? ⟨g2, 1, none⟩ = some (.int .u32 (X 1).toNat) ∧ w'.cell? ⟨g2, 2, none⟩ = some (.int .u32 (X 2).toNat) ∧ w'.cell? ⟨g2, 3, none⟩ = some (.int .u32 (X 3).toNat) ∧ w'.cell? ⟨g3, 0, none⟩ = some (.int .u32 (Y 0).toNat) ∧ w'.cell? ⟨g3, 1, none⟩ = some (.int .u32 (Y 1).toNat) ∧ w'.cell? ⟨g3, 2, none⟩ = some (.int .u32 (Y 2).toNat) ∧ w'.cell? ⟨g3, 3, none⟩ = some (.int .u32 (Y 3).toNat) ∧ w'.cell? ⟨g4, 0, none⟩ = some (.int .u32 (Z 0).toNat) ∧ w'.cell? ⟨g4, 1, none⟩ = some (.int .u32 (Z 1).toNat) ∧ w'.cell? ⟨g4, 2, none⟩ = some (.int .u32 (Z 2).toNat) ∧ w'.cell? ⟨g4, 3, none⟩ = some (.int .u32 (Z 3).toNat) ∧ D5 w g0 g1 g2 g3 g4 C D X Y Z w') ((refine D5.held ?_; repeat (first | assumption | (refine D5.drew ?_))))
    ((first
      | (go_at_call 20; (with_reducible refine (K6.out _ hF.drew.bel).mono ?_); rintro e w14 ⟨rfl, hb⟩; have hF4 := D5.below hF.drew hb; clear hb)
      | (go_at_call 20; (with_reducible refine (K7.out _ hF4.bel).mono ?_); rintro e w15 ⟨rfl, hb⟩; have hF5 := D5.below hF4 hb; clear hb)))
  go_wp2_with fail
  go_returns
  exact ⟨rfl, hF5.bel⟩

theorem rapart_walk (t t' : Int) (I I' : Nat → UInt32) (A B A' B' : Option Addr) (ps ps' : List Int) (ds ds' : List (Nat → UInt32)) (c e c' e' : Nat) (f f' : Int) (w : World) (hP : Places w) (hs : Sl w w.heap.size A ps.length (ps.map iv)) (hs' : Sl w w.heap.size A' ps'.length (ps'.map iv)) (hd : Sd w w.heap.size B ds) (hd' : Sd w w.heap.size B' ds') :
    Calls Tryd.prog 5 #[.agg #[.int .i64 t, .int .u32 (I 0).toNat, .int .u32 (I 1).toNat, .int .u32 (I 2).toNat, .int .u32 (I 3).toNat, .slice A ps.length c, .slice B ds.length e, .int .i64 f], .agg #[.int .i64 t', .int .u32 (I' 0).toNat, .int .u32 (I' 1).toNat, .int .u32 (I' 2).toNat, .int .u32 (I' 3).toNat, .slice A' ps'.length c', .slice B' ds'.length e', .int .i64 f']] w fun r w' => r = .returned (.bool true) ∧ Below w.heap.size w w' := by
  by_cases h : rightR t I ps ds.length f = true ∧ rightR t' I' ps' ds'.length f' = true
  · cases hQ : sameR t t' I I' f f' ps ps' ds ds' with
    | true => exact rapart_yes t t' I I' A B A' B' ps ps' ds ds' c e c' e' f f' w hs hs' hd hd' hP h.1 h.2 hQ
    | false =>
      cases hcd : eqD (ofRL (bytesR t I ps ds f)) (ofRL (bytesR t' I' ps' ds' f')) with
      | false => exact rapart_c t t' I I' A B A' B' ps ps' ds ds' c e c' e' f f' w hs hs' hd hd' hP h.1 h.2 hQ hcd
      | true =>
        cases hxy : eqD (ofL (bytesR t I ps ds f)) (ofL (bytesR t' I' ps' ds' f')) with
        | true => exact rapart_x t t' I I' A B A' B' ps ps' ds ds' c e c' e' f f' w hs hs' hd hd' hP h.1 h.2 hQ hcd hxy
        | false => exact rapart_p t t' I I' A B A' B' ps ps' ds ds' c e c' e' f f' w hs hs' hd hd' hP h.1 h.2 hQ hcd hxy
  · exact rapart_no t t' I I' A B A' B' ps ps' ds ds' c e c' e' f f' w hs hs' hd hd' h
end Go.Proofs.YtdkkomcokefkhaaDoor
