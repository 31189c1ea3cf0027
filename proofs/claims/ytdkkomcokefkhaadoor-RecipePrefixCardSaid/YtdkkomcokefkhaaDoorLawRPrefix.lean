/- The law RecipePrefix, walked. -/
import Derived.Test.YtdkkomcokefkhaaDoorRcW
import Derived.Test.YtdkkomcokefkhaaDoorLawRRight
namespace Go.Proofs.YtdkkomcokefkhaaDoor
open Go.RowKit

set_option maxRecDepth 100000 in
set_option maxHeartbeats 4000000 in
theorem rpre_no (t t' : Int) (I I' : Nat → UInt32) (A B A' B' : Option Addr) (ps ps' : List Int) (ds ds' : List (Nat → UInt32)) (c e c' e' : Nat) (f f' : Int) (w : World) (hs : Sl w w.heap.size A ps.length (ps.map iv)) (hs' : Sl w w.heap.size A' ps'.length (ps'.map iv)) (_hd : Sd w w.heap.size B ds) (_hd' : Sd w w.heap.size B' ds') (hno : ¬ (rightR t I ps ds.length f = true ∧ rightR t' I' ps' ds'.length f' = true)) :
    Calls Tryd.prog 6 #[.agg #[.int .i64 t, .int .u32 (I 0).toNat, .int .u32 (I 1).toNat, .int .u32 (I 2).toNat, .int .u32 (I 3).toNat, .slice A ps.length c, .slice B ds.length e, .int .i64 f], .agg #[.int .i64 t', .int .u32 (I' 0).toNat, .int .u32 (I' 1).toNat, .int .u32 (I' 2).toNat, .int .u32 (I' 3).toNat, .slice A' ps'.length c', .slice B' ds'.length e', .int .i64 f']] w fun r w' => r = .returned (.bool true) ∧ Below w.heap.size w w' := by
  have H0 := Lib.hid (Rb2.new w t I (.slice A ps.length c) (.slice B ds.length e) f t' I' (.slice A' ps'.length c') (.slice B' ds'.length e') f')
  go_enter Tryd.func6, Tryd.ntmps6
  go_wp2_with fail
  refine (awake_any _).mono ?_
  rintro r w1 ⟨rfl, hb1⟩
  have H1 := Lib.hid (H0.out.below hb1)
  clear H0 hb1
  obtain ⟨c0, c1, c2, c3, c4, c5, c6, c7, d0, d1, d2, d3, d4, d5, d6, d7⟩ := H1.out.all
  go_wp2_with fail
  refine (refR_Few t I A B ps.length c ds.length e f 20 _).mono ?_
  rintro r w2 ⟨he, hb2⟩
  have H2 := Lib.hid (H1.out.below hb2)
  clear H1 hb2 c0 c1 c2 c3 c4 c5 c6 c7 d0 d1 d2 d3 d4 d5 d6 d7
  by_cases hf1 : ps.length ≤ 20 ∧ ds.length ≤ 20
  case neg =>
    rw [decide_eq_false hf1] at he
    subst he
    go_wp2_with fail
    go_returns
    exact ⟨rfl, H2.out.bel⟩
  rw [decide_eq_true hf1] at he
  subst he
  obtain ⟨c0, c1, c2, c3, c4, c5, c6, c7, d0, d1, d2, d3, d4, d5, d6, d7⟩ := H2.out.all
  go_wp2_with fail
  refine (refR_Few t' I' A' B' ps'.length c' ds'.length e' f' 20 _).mono ?_
  rintro r w3 ⟨he, hb3⟩
  have H3 := Lib.hid (H2.out.below hb3)
  clear H2 hb3 c0 c1 c2 c3 c4 c5 c6 c7 d0 d1 d2 d3 d4 d5 d6 d7
  by_cases hf2 : ps'.length ≤ 20 ∧ ds'.length ≤ 20
  case neg =>
    rw [decide_eq_false hf2] at he
    subst he
    go_wp2_with fail
    go_returns
    exact ⟨rfl, H3.out.bel⟩
  rw [decide_eq_true hf2] at he
  subst he
  obtain ⟨n1, n2⟩ := hf1
  obtain ⟨n3, n4⟩ := hf2
  obtain ⟨c0, c1, c2, c3, c4, c5, c6, c7, d0, d1, d2, d3, d4, d5, d6, d7⟩ := H3.out.all
  go_wp2_with fail
  refine (refR_Right t I A B ps c ds.length e f _ ((hs.below H3.out.bel).more H3.out.bel.size) (by omega) (by omega)).mono ?_
  rintro r w4 ⟨he, hb4⟩
  have H4 := Lib.hid (H3.out.below hb4)
  clear H3 hb4 c0 c1 c2 c3 c4 c5 c6 c7 d0 d1 d2 d3 d4 d5 d6 d7
  cases hr : rightR t I ps ds.length f with
  | false =>
    rw [hr] at he
    subst he
    go_wp2_with fail
    go_returns
    exact ⟨rfl, H4.out.bel⟩
  | true =>
    rw [hr] at he
    subst he
    obtain ⟨c0, c1, c2, c3, c4, c5, c6, c7, d0, d1, d2, d3, d4, d5, d6, d7⟩ := H4.out.all
    have hr2 : rightR t' I' ps' ds'.length f' = false := by
      cases h2 : rightR t' I' ps' ds'.length f' with
      | false => rfl
      | true => exact absurd ⟨hr, h2⟩ hno
    clear hno
    go_wp2_with fail
    refine (refR_Right t' I' A' B' ps' c' ds'.length e' f' _ ((hs'.below H4.out.bel).more H4.out.bel.size) (by omega) (by omega)).mono ?_
    rintro r w5 ⟨he, hb5⟩
    have H5 := Lib.hid (H4.out.below hb5)
    clear H4 hb5 c0 c1 c2 c3 c4 c5 c6 c7 d0 d1 d2 d3 d4 d5 d6 d7
    rw [hr2] at he
    subst he
    go_wp2_with fail
    go_returns
    exact ⟨rfl, H5.out.bel⟩

set_option maxRecDepth 100000 in
set_option maxHeartbeats 4000000 in
theorem rpre_a (t t' : Int) (I I' : Nat → UInt32) (A B A' B' : Option Addr) (ps ps' : List Int) (ds ds' : List (Nat → UInt32)) (c e c' e' : Nat) (f f' : Int) (w : World) (hs : Sl w w.heap.size A ps.length (ps.map iv)) (hs' : Sl w w.heap.size A' ps'.length (ps'.map iv)) (hd : Sd w w.heap.size B ds) (hd' : Sd w w.heap.size B' ds') (hr : rightR t I ps ds.length f = true) (hr' : rightR t' I' ps' ds'.length f' = true) (hle : (bytesR t I ps ds f).length ≤ (bytesR t' I' ps' ds' f').length) :
    Calls Tryd.prog 6 #[.agg #[.int .i64 t, .int .u32 (I 0).toNat, .int .u32 (I 1).toNat, .int .u32 (I 2).toNat, .int .u32 (I 3).toNat, .slice A ps.length c, .slice B ds.length e, .int .i64 f], .agg #[.int .i64 t', .int .u32 (I' 0).toNat, .int .u32 (I' 1).toNat, .int .u32 (I' 2).toNat, .int .u32 (I' 3).toNat, .slice A' ps'.length c', .slice B' ds'.length e', .int .i64 f']] w fun r w' => r = .returned (.bool true) ∧ Below w.heap.size w w' := by
  obtain ⟨Q, hQ⟩ : ∃ Q, sameR t t' I I' f f' ps ps' ds ds' = Q := ⟨_, rfl⟩
  have HP : Hid (decide ((bytesR t' I' ps' ds' f').take (bytesR t I ps ds f).length = bytesR t I ps ds f) = Q) := by
    unfold Hid
    rw [← hQ, Bool.eq_iff_iff, decide_eq_true_iff]
    exact ⟨fun h => bytes_prefix hr hr' h, fun h => by rw [← same_len h, List.take_length]⟩
  have hn1 : ps.length ≤ 1000000 := by have := (rr_in hr).2.2.1; omega
  have hn2 : ds.length ≤ 1000000 := by have := (rr_in hr).2.2.2.2; omega
  have k4 := fun (W : World) (h : Below w.heap.size w W) => refR_Same t t' I I' A B A' B' ps ps' ds ds' c e c' e' f f' W ((hs.below h).more h.size) ((hs'.below h).more h.size) ((hd.below h).more h.size) ((hd'.below h).more h.size) (by omega) (by omega)
  rw [hQ] at k4
  have K4 := Lib.hid k4
  have HLE := Lib.hid hle
  clear k4 hQ hle hn1 hn2
  obtain ⟨_, _, n1, _, n2⟩ := rr_in hr
  obtain ⟨_, _, n3, _, n4⟩ := rr_in hr'
  have HR1 := Lib.hid hr
  have HR2 := Lib.hid hr'
  clear hr hr'
  have H0 := Lib.hid (Rb2.new w t I (.slice A ps.length c) (.slice B ds.length e) f t' I' (.slice A' ps'.length c') (.slice B' ds'.length e') f')
  go_enter Tryd.func6, Tryd.ntmps6
  go_wp2_with fail
  refine (awake_any _).mono ?_
  rintro r w1 ⟨rfl, hb1⟩
  have H1 := Lib.hid (H0.out.below hb1)
  clear H0 hb1
  obtain ⟨c0, c1, c2, c3, c4, c5, c6, c7, d0, d1, d2, d3, d4, d5, d6, d7⟩ := H1.out.all
  go_wp2_with fail
  refine (refR_Few t I A B ps.length c ds.length e f 20 _).mono ?_
  rintro r w2 ⟨he, hb2⟩
  have H2 := Lib.hid (H1.out.below hb2)
  clear H1 hb2 c0 c1 c2 c3 c4 c5 c6 c7 d0 d1 d2 d3 d4 d5 d6 d7
  rw [decide_eq_true ⟨by omega, by omega⟩] at he
  subst he
  obtain ⟨c0, c1, c2, c3, c4, c5, c6, c7, d0, d1, d2, d3, d4, d5, d6, d7⟩ := H2.out.all
  go_wp2_with fail
  refine (refR_Few t' I' A' B' ps'.length c' ds'.length e' f' 20 _).mono ?_
  rintro r w3 ⟨he, hb3⟩
  have H3 := Lib.hid (H2.out.below hb3)
  clear H2 hb3 c0 c1 c2 c3 c4 c5 c6 c7 d0 d1 d2 d3 d4 d5 d6 d7
  rw [decide_eq_true ⟨by omega, by omega⟩] at he
  subst he
  obtain ⟨c0, c1, c2, c3, c4, c5, c6, c7, d0, d1, d2, d3, d4, d5, d6, d7⟩ := H3.out.all
  go_wp2_with fail
  refine (refR_Right t I A B ps c ds.length e f _ ((hs.below H3.out.bel).more H3.out.bel.size) (by omega) (by omega)).mono ?_
  rintro r w4 ⟨he, hb4⟩
  have H4 := Lib.hid (H3.out.below hb4)
  clear H3 hb4 c0 c1 c2 c3 c4 c5 c6 c7 d0 d1 d2 d3 d4 d5 d6 d7
  rw [HR1.out] at he
  subst he
  obtain ⟨c0, c1, c2, c3, c4, c5, c6, c7, d0, d1, d2, d3, d4, d5, d6, d7⟩ := H4.out.all
  go_wp2_with fail
  refine (refR_Right t' I' A' B' ps' c' ds'.length e' f' _ ((hs'.below H4.out.bel).more H4.out.bel.size) (by omega) (by omega)).mono ?_
  rintro r w5 ⟨he, hb5⟩
  have H5 := Lib.hid (H4.out.below hb5)
  clear H4 hb5 c0 c1 c2 c3 c4 c5 c6 c7 d0 d1 d2 d3 d4 d5 d6 d7
  rw [HR2.out] at he
  subst he
  obtain ⟨c0, c1, c2, c3, c4, c5, c6, c7, d0, d1, d2, d3, d4, d5, d6, d7⟩ := H5.out.all
  go_wp2_with fail
  refine (recipe_Put t I A B ps ds c e f _ ((hs.below H5.out.bel).more H5.out.bel.size) ((hd.below H5.out.bel).more H5.out.bel.size) HR1.out).mono ?_
  rintro r w6 ⟨⟨s, rfl, hsl⟩, hb6⟩
  have H6 := Lib.hid (H5.out.below hb6)
  clear H5 hb6 c0 c1 c2 c3 c4 c5 c6 c7 d0 d1 d2 d3 d4 d5 d6 d7
  obtain ⟨c0, c1, c2, c3, c4, c5, c6, c7, d0, d1, d2, d3, d4, d5, d6, d7⟩ := H6.out.all
  go_wp2_with fail
  refine (recipe_Put t' I' A' B' ps' ds' c' e' f' _ ((hs'.below H6.out.bel).more H6.out.bel.size) ((hd'.below H6.out.bel).more H6.out.bel.size) HR2.out).mono ?_
  rintro r w7 ⟨⟨s2, rfl, htl⟩, hb7⟩
  have H7 := Lib.hid (H6.out.below hb7)
  clear H6 hb7 c0 c1 c2 c3 c4 c5 c6 c7 d0 d1 d2 d3 d4 d5 d6 d7
  have hsz : s.size ≤ s2.size := by
    have e1 : s.data.toList.length = s.size := rfl
    have e2 : s2.data.toList.length = s2.size := rfl
    have := HLE.out
    rw [hsl.out] at e1
    rw [htl.out] at e2
    omega
  have hszI : (s.size : Int) ≤ s2.size := by omega
  have hdec : decide (s.size ≤ s2.size) = true := decide_eq_true hsz
  have hcmp : ((s2.extract 0 s.size).toList == s.toList) = Q := by
    have e1 : (s2.extract 0 s.size).toList = (s2.data.toList.drop 0).take (s.size - 0) := Lib.extract_toList s2 0 s.size
    have e2 : s.toList = s.data.toList := by
      have := Lib.extract_toList s 0 s.size
      have e3 : s.extract 0 s.size = s := by
        refine ba_inj ?_
        rw [Lib.extract_data]
        show (s.data.toList.take (s.size - 0)) = _
        exact List.take_of_length_le (Nat.le_refl _)
      rw [e3] at this
      rw [this]
      exact List.take_of_length_le (Nat.le_refl _)
    have e4 : s.size = (bytesR t I ps ds f).length := by rw [← hsl.out]; rfl
    rw [e1, e2, hsl.out, htl.out, e4, ← HP.out, Bool.eq_iff_iff, beq_iff_eq, decide_eq_true_iff, Nat.sub_zero, List.drop_zero]
  have hR7 := H7.out
  clear H7 hs hs' hd hd' n1 n2 n3 n4
  go_wp2_with fail
  go_region_held3 (fun w' => w'.cell? ⟨w.heap.size, 0, none⟩ = some (.int .i64 t) ∧ w'.cell? ⟨w.heap.size, 1, none⟩ = some (.int .u32 (I 0).toNat) ∧ w'.cell? ⟨w.heap.size, 2, none⟩ = some (.int .u32 (I 1).toNat) ∧ w'.cell? ⟨w.heap.size, 3, none⟩ = some (.int .u32 (I 2).toNat) ∧ w'.cell? ⟨w.heap.size, 4, none⟩ = some (.int .u32 (I 3).toNat) ∧ w'.cell? ⟨w.heap.size, 5, none⟩ = some (.slice A ps.length c) ∧ w'.cell? ⟨w.heap.size, 6, none⟩ = some (.slice B ds.length e) ∧ w'.cell? ⟨w.heap.size, 7, none⟩ = some (.int .i64 f) ∧ w'.cell? ⟨w.heap.size + 1, 0, none⟩ = some (.int .i64 t') ∧ w'.cell? ⟨w.heap.size + 1, 1, none⟩ = some (.int .u32 (I' 0).toNat) ∧ w'.cell? ⟨w.heap.size + 1, 2, none⟩ = some (.int .u32 (I' 1).toNat) ∧ w'.cell? ⟨w.heap.size + 1, 3, none⟩ = some (.int .u32 (I' 2).toNat) ∧ w'.cell? ⟨w.heap.size + 1, 4, none⟩ = some (.int .u32 (I' 3).toNat) ∧ w'.cell? ⟨w.heap.size + 1, 5, none⟩ = some (.slice A' ps'.length c') ∧ w'.cell? ⟨w.heap.size + 1, 6, none⟩ = some (.slice B' ds'.length e') ∧ w'.cell? ⟨w.heap.size + 1, 7, none⟩ = some (.int .i64 f') ∧ Rb2 w t I (.slice A ps.length c) (.slice B ds.length e) f t' I' (.slice A' ps'.length c') (.slice B' ds'.length e') f' w') ((refine Rb2.held ?_; repeat (first | assumption | (refine Rb2.drew ?_))))
    ((go_at_call 16; (with_reducible refine (K4.out _ hR7.drew.bel).mono ?_); rintro e w8 ⟨rfl, hb⟩; have hR8 := Rb2.below hR7.drew hb; clear hb))
  go_wp2_with fail
  go_returns
  exact ⟨rfl, hR8.bel⟩

set_option maxRecDepth 100000 in
set_option maxHeartbeats 4000000 in
theorem rpre_b (t t' : Int) (I I' : Nat → UInt32) (A B A' B' : Option Addr) (ps ps' : List Int) (ds ds' : List (Nat → UInt32)) (c e c' e' : Nat) (f f' : Int) (w : World) (hs : Sl w w.heap.size A ps.length (ps.map iv)) (hs' : Sl w w.heap.size A' ps'.length (ps'.map iv)) (hd : Sd w w.heap.size B ds) (hd' : Sd w w.heap.size B' ds') (hr : rightR t I ps ds.length f = true) (hr' : rightR t' I' ps' ds'.length f' = true) (hgt : (bytesR t' I' ps' ds' f').length < (bytesR t I ps ds f).length) :
    Calls Tryd.prog 6 #[.agg #[.int .i64 t, .int .u32 (I 0).toNat, .int .u32 (I 1).toNat, .int .u32 (I 2).toNat, .int .u32 (I 3).toNat, .slice A ps.length c, .slice B ds.length e, .int .i64 f], .agg #[.int .i64 t', .int .u32 (I' 0).toNat, .int .u32 (I' 1).toNat, .int .u32 (I' 2).toNat, .int .u32 (I' 3).toNat, .slice A' ps'.length c', .slice B' ds'.length e', .int .i64 f']] w fun r w' => r = .returned (.bool true) ∧ Below w.heap.size w w' := by
  have hQ : sameR t t' I I' f f' ps ps' ds ds' = false := by
    cases h : sameR t t' I I' f f' ps ps' ds ds' with
    | false => rfl
    | true => rw [same_len h] at hgt; omega
  have hn1 : ps.length ≤ 1000000 := by have := (rr_in hr).2.2.1; omega
  have hn2 : ds.length ≤ 1000000 := by have := (rr_in hr).2.2.2.2; omega
  have k4 := fun (W : World) (h : Below w.heap.size w W) => refR_Same t t' I I' A B A' B' ps ps' ds ds' c e c' e' f f' W ((hs.below h).more h.size) ((hs'.below h).more h.size) ((hd.below h).more h.size) ((hd'.below h).more h.size) (by omega) (by omega)
  rw [hQ] at k4
  have K4 := Lib.hid k4
  have HGT := Lib.hid hgt
  clear k4 hQ hgt hn1 hn2
  obtain ⟨_, _, n1, _, n2⟩ := rr_in hr
  obtain ⟨_, _, n3, _, n4⟩ := rr_in hr'
  have HR1 := Lib.hid hr
  have HR2 := Lib.hid hr'
  clear hr hr'
  have H0 := Lib.hid (Rb2.new w t I (.slice A ps.length c) (.slice B ds.length e) f t' I' (.slice A' ps'.length c') (.slice B' ds'.length e') f')
  go_enter Tryd.func6, Tryd.ntmps6
  go_wp2_with fail
  refine (awake_any _).mono ?_
  rintro r w1 ⟨rfl, hb1⟩
  have H1 := Lib.hid (H0.out.below hb1)
  clear H0 hb1
  obtain ⟨c0, c1, c2, c3, c4, c5, c6, c7, d0, d1, d2, d3, d4, d5, d6, d7⟩ := H1.out.all
  go_wp2_with fail
  refine (refR_Few t I A B ps.length c ds.length e f 20 _).mono ?_
  rintro r w2 ⟨he, hb2⟩
  have H2 := Lib.hid (H1.out.below hb2)
  clear H1 hb2 c0 c1 c2 c3 c4 c5 c6 c7 d0 d1 d2 d3 d4 d5 d6 d7
  rw [decide_eq_true ⟨by omega, by omega⟩] at he
  subst he
  obtain ⟨c0, c1, c2, c3, c4, c5, c6, c7, d0, d1, d2, d3, d4, d5, d6, d7⟩ := H2.out.all
  go_wp2_with fail
  refine (refR_Few t' I' A' B' ps'.length c' ds'.length e' f' 20 _).mono ?_
  rintro r w3 ⟨he, hb3⟩
  have H3 := Lib.hid (H2.out.below hb3)
  clear H2 hb3 c0 c1 c2 c3 c4 c5 c6 c7 d0 d1 d2 d3 d4 d5 d6 d7
  rw [decide_eq_true ⟨by omega, by omega⟩] at he
  subst he
  obtain ⟨c0, c1, c2, c3, c4, c5, c6, c7, d0, d1, d2, d3, d4, d5, d6, d7⟩ := H3.out.all
  go_wp2_with fail
  refine (refR_Right t I A B ps c ds.length e f _ ((hs.below H3.out.bel).more H3.out.bel.size) (by omega) (by omega)).mono ?_
  rintro r w4 ⟨he, hb4⟩
  have H4 := Lib.hid (H3.out.below hb4)
  clear H3 hb4 c0 c1 c2 c3 c4 c5 c6 c7 d0 d1 d2 d3 d4 d5 d6 d7
  rw [HR1.out] at he
  subst he
  obtain ⟨c0, c1, c2, c3, c4, c5, c6, c7, d0, d1, d2, d3, d4, d5, d6, d7⟩ := H4.out.all
  go_wp2_with fail
  refine (refR_Right t' I' A' B' ps' c' ds'.length e' f' _ ((hs'.below H4.out.bel).more H4.out.bel.size) (by omega) (by omega)).mono ?_
  rintro r w5 ⟨he, hb5⟩
  have H5 := Lib.hid (H4.out.below hb5)
  clear H4 hb5 c0 c1 c2 c3 c4 c5 c6 c7 d0 d1 d2 d3 d4 d5 d6 d7
  rw [HR2.out] at he
  subst he
  obtain ⟨c0, c1, c2, c3, c4, c5, c6, c7, d0, d1, d2, d3, d4, d5, d6, d7⟩ := H5.out.all
  go_wp2_with fail
  refine (recipe_Put t I A B ps ds c e f _ ((hs.below H5.out.bel).more H5.out.bel.size) ((hd.below H5.out.bel).more H5.out.bel.size) HR1.out).mono ?_
  rintro r w6 ⟨⟨s, rfl, hsl⟩, hb6⟩
  have H6 := Lib.hid (H5.out.below hb6)
  clear H5 hb6 c0 c1 c2 c3 c4 c5 c6 c7 d0 d1 d2 d3 d4 d5 d6 d7
  obtain ⟨c0, c1, c2, c3, c4, c5, c6, c7, d0, d1, d2, d3, d4, d5, d6, d7⟩ := H6.out.all
  go_wp2_with fail
  refine (recipe_Put t' I' A' B' ps' ds' c' e' f' _ ((hs'.below H6.out.bel).more H6.out.bel.size) ((hd'.below H6.out.bel).more H6.out.bel.size) HR2.out).mono ?_
  rintro r w7 ⟨⟨s2, rfl, htl⟩, hb7⟩
  have H7 := Lib.hid (H6.out.below hb7)
  clear H6 hb7 c0 c1 c2 c3 c4 c5 c6 c7 d0 d1 d2 d3 d4 d5 d6 d7
  have hsz : s2.size < s.size := by
    have e1 : s.data.toList.length = s.size := rfl
    have e2 : s2.data.toList.length = s2.size := rfl
    have := HGT.out
    rw [hsl.out] at e1
    rw [htl.out] at e2
    omega
  have hszI : (s2.size : Int) < s.size := by omega
  have hdec : decide (s.size ≤ s2.size) = false := decide_eq_false (by omega)
  have hR7 := H7.out
  clear H7 hs hs' hd hd' n1 n2 n3 n4
  go_wp2_with fail
  refine wp_region_held_drew (S := (fun w' => w'.cell? ⟨w.heap.size, 0, none⟩ = some (.int .i64 t) ∧ w'.cell? ⟨w.heap.size, 1, none⟩ = some (.int .u32 (I 0).toNat) ∧ w'.cell? ⟨w.heap.size, 2, none⟩ = some (.int .u32 (I 1).toNat) ∧ w'.cell? ⟨w.heap.size, 3, none⟩ = some (.int .u32 (I 2).toNat) ∧ w'.cell? ⟨w.heap.size, 4, none⟩ = some (.int .u32 (I 3).toNat) ∧ w'.cell? ⟨w.heap.size, 5, none⟩ = some (.slice A ps.length c) ∧ w'.cell? ⟨w.heap.size, 6, none⟩ = some (.slice B ds.length e) ∧ w'.cell? ⟨w.heap.size, 7, none⟩ = some (.int .i64 f) ∧ w'.cell? ⟨w.heap.size + 1, 0, none⟩ = some (.int .i64 t') ∧ w'.cell? ⟨w.heap.size + 1, 1, none⟩ = some (.int .u32 (I' 0).toNat) ∧ w'.cell? ⟨w.heap.size + 1, 2, none⟩ = some (.int .u32 (I' 1).toNat) ∧ w'.cell? ⟨w.heap.size + 1, 3, none⟩ = some (.int .u32 (I' 2).toNat) ∧ w'.cell? ⟨w.heap.size + 1, 4, none⟩ = some (.int .u32 (I' 3).toNat) ∧ w'.cell? ⟨w.heap.size + 1, 5, none⟩ = some (.slice A' ps'.length c') ∧ w'.cell? ⟨w.heap.size + 1, 6, none⟩ = some (.slice B' ds'.length e') ∧ w'.cell? ⟨w.heap.size + 1, 7, none⟩ = some (.int .i64 f') ∧ Rb2 w t I (.slice A ps.length c) (.slice B ds.length e) f t' I' (.slice A' ps'.length c') (.slice B' ds'.length e') f' w')) (by kernel_rfl) hR7.drew.held (fun hHeld => ?_)
  refine wpAnyH_take (i := 0) (v := ?_) rfl (by kernel_rfl) (by kernel_rfl) (by kernel_rfl) (fun _ _ _ h => h) (Or.inl ⟨by kernel_rfl, ?_⟩) (by assumption) ?_
  rotate_left
  · intro w hSw; (try dsimp only at hSw); go_simp; (try with_reducible rfl)
  try simp only [Act.put, List.getElem_toArray, List.getElem_cons_zero, List.setIfInBounds_toArray, List.set_cons_zero, List.set_cons_succ]
  refine wpAnyH_take (i := 1) (v := ?_) rfl (by kernel_rfl) (by kernel_rfl) (by kernel_rfl) (fun _ _ _ h => h) (Or.inl ⟨by kernel_rfl, ?_⟩) (by assumption) ?_
  rotate_left
  · intro w hSw; (try dsimp only at hSw); go_simp; (try with_reducible rfl)
  try simp only [Act.put, List.getElem_toArray, List.getElem_cons_succ, List.getElem_cons_zero, List.setIfInBounds_toArray, List.set_cons_zero, List.set_cons_succ]
  refine wpAnyH_take (i := 2) (v := ?_) rfl (by kernel_rfl) (by kernel_rfl) (by kernel_rfl) (fun _ _ _ h => h) (Or.inl ⟨by kernel_rfl, ?_⟩) (by assumption) ?_
  rotate_left
  · intro w hSw; (try dsimp only at hSw); go_simp; (try with_reducible rfl)
  try simp only [Act.put, List.getElem_toArray, List.getElem_cons_succ, List.getElem_cons_zero, List.setIfInBounds_toArray, List.set_cons_zero, List.set_cons_succ]
  refine wpAnyH_take (i := 3) (v := ?_) rfl (by kernel_rfl) (by kernel_rfl) (by kernel_rfl) (fun _ _ _ h => h) (Or.inl ⟨by kernel_rfl, ?_⟩) (by assumption) ?_
  rotate_left
  · intro w hSw; (try dsimp only at hSw); go_simp; (try with_reducible rfl)
  try simp only [Act.put, List.getElem_toArray, List.getElem_cons_succ, List.getElem_cons_zero, List.setIfInBounds_toArray, List.set_cons_zero, List.set_cons_succ]
  refine wpAnyH_take (i := 4) (v := ?_) rfl (by kernel_rfl) (by kernel_rfl) (by kernel_rfl) (fun _ _ _ h => h) (Or.inl ⟨by kernel_rfl, ?_⟩) (by assumption) ?_
  rotate_left
  · intro w hSw; (try dsimp only at hSw); go_simp; (try with_reducible rfl)
  try simp only [Act.put, List.getElem_toArray, List.getElem_cons_succ, List.getElem_cons_zero, List.setIfInBounds_toArray, List.set_cons_zero, List.set_cons_succ]
  refine wpAnyH_take (i := 5) (v := ?_) rfl (by kernel_rfl) (by kernel_rfl) (by kernel_rfl) (fun _ _ _ h => h) (Or.inl ⟨by kernel_rfl, ?_⟩) (by assumption) ?_
  rotate_left
  · intro w hSw; (try dsimp only at hSw); go_simp; (try with_reducible rfl)
  try simp only [Act.put, List.getElem_toArray, List.getElem_cons_succ, List.getElem_cons_zero, List.setIfInBounds_toArray, List.set_cons_zero, List.set_cons_succ]
  refine wpAnyH_take (i := 6) (v := ?_) rfl (by kernel_rfl) (by kernel_rfl) (by kernel_rfl) (fun _ _ _ h => h) (Or.inl ⟨by kernel_rfl, ?_⟩) (by assumption) ?_
  rotate_left
  · intro w hSw; (try dsimp only at hSw); go_simp; (try with_reducible rfl)
  try simp only [Act.put, List.getElem_toArray, List.getElem_cons_succ, List.getElem_cons_zero, List.setIfInBounds_toArray, List.set_cons_zero, List.set_cons_succ]
  refine wpAnyH_take (i := 7) (v := ?_) rfl (by kernel_rfl) (by kernel_rfl) (by kernel_rfl) (fun _ _ _ h => h) (Or.inl ⟨by kernel_rfl, ?_⟩) (by assumption) ?_
  rotate_left
  · intro w hSw; (try dsimp only at hSw); go_simp; (try with_reducible rfl)
  try simp only [Act.put, List.getElem_toArray, List.getElem_cons_succ, List.getElem_cons_zero, List.setIfInBounds_toArray, List.set_cons_zero, List.set_cons_succ]
  refine wpAnyH_take (i := 8) (v := ?_) rfl (by kernel_rfl) (by kernel_rfl) (by kernel_rfl) (fun _ _ _ h => h) (Or.inl ⟨by kernel_rfl, ?_⟩) (by assumption) ?_
  rotate_left
  · intro w hSw; (try dsimp only at hSw); go_simp; (try with_reducible rfl)
  try simp only [Act.put, List.getElem_toArray, List.getElem_cons_succ, List.getElem_cons_zero, List.setIfInBounds_toArray, List.set_cons_zero, List.set_cons_succ]
  refine wpAnyH_take (i := 9) (v := ?_) rfl (by kernel_rfl) (by kernel_rfl) (by kernel_rfl) (fun _ _ _ h => h) (Or.inl ⟨by kernel_rfl, ?_⟩) (by assumption) ?_
  rotate_left
  · intro w hSw; (try dsimp only at hSw); go_simp; (try with_reducible rfl)
  try simp only [Act.put, List.getElem_toArray, List.getElem_cons_succ, List.getElem_cons_zero, List.setIfInBounds_toArray, List.set_cons_zero, List.set_cons_succ]
  refine wpAnyH_take (i := 10) (v := ?_) rfl (by kernel_rfl) (by kernel_rfl) (by kernel_rfl) (fun _ _ _ h => h) (Or.inl ⟨by kernel_rfl, ?_⟩) (by assumption) ?_
  rotate_left
  · intro w hSw; (try dsimp only at hSw); go_simp; (try with_reducible rfl)
  try simp only [Act.put, List.getElem_toArray, List.getElem_cons_succ, List.getElem_cons_zero, List.setIfInBounds_toArray, List.set_cons_zero, List.set_cons_succ]
  refine wpAnyH_take (i := 11) (v := ?_) rfl (by kernel_rfl) (by kernel_rfl) (by kernel_rfl) (fun _ _ _ h => h) (Or.inl ⟨by kernel_rfl, ?_⟩) (by assumption) ?_
  rotate_left
  · intro w hSw; (try dsimp only at hSw); go_simp; (try with_reducible rfl)
  try simp only [Act.put, List.getElem_toArray, List.getElem_cons_succ, List.getElem_cons_zero, List.setIfInBounds_toArray, List.set_cons_zero, List.set_cons_succ]
  refine wpAnyH_take (i := 12) (v := ?_) rfl (by kernel_rfl) (by kernel_rfl) (by kernel_rfl) (fun _ _ _ h => h) (Or.inl ⟨by kernel_rfl, ?_⟩) (by assumption) ?_
  rotate_left
  · intro w hSw; (try dsimp only at hSw); go_simp; (try with_reducible rfl)
  try simp only [Act.put, List.getElem_toArray, List.getElem_cons_succ, List.getElem_cons_zero, List.setIfInBounds_toArray, List.set_cons_zero, List.set_cons_succ]
  refine wpAnyH_take (i := 13) (v := undef) rfl (by kernel_rfl) (by kernel_rfl) (by kernel_rfl) (fun _ _ _ h => h) (Or.inr ⟨by kernel_rfl, rfl⟩) (by assumption) ?_
  try simp only [Act.put, List.getElem_toArray, List.getElem_cons_succ, List.getElem_cons_zero, List.setIfInBounds_toArray, List.set_cons_zero, List.set_cons_succ]
  refine wpAnyH_take (i := 14) (v := undef) rfl (by kernel_rfl) (by kernel_rfl) (by kernel_rfl) (fun _ _ _ h => h) (Or.inr ⟨by kernel_rfl, rfl⟩) (by assumption) ?_
  try simp only [Act.put, List.getElem_toArray, List.getElem_cons_succ, List.getElem_cons_zero, List.setIfInBounds_toArray, List.set_cons_zero, List.set_cons_succ]
  refine wpAnyH_take (i := 15) (v := undef) rfl (by kernel_rfl) (by kernel_rfl) (by kernel_rfl) (fun _ _ _ h => h) (Or.inr ⟨by kernel_rfl, rfl⟩) (by assumption) ?_
  try simp only [Act.put, List.getElem_toArray, List.getElem_cons_succ, List.getElem_cons_zero, List.setIfInBounds_toArray, List.set_cons_zero, List.set_cons_succ]
  refine wpAnyH_take (i := 16) (v := undef) rfl (by kernel_rfl) (by kernel_rfl) (by kernel_rfl) (fun _ _ _ h => h) (Or.inr ⟨by kernel_rfl, rfl⟩) (by assumption) ?_
  try simp only [Act.put, List.getElem_toArray, List.getElem_cons_succ, List.getElem_cons_zero, List.setIfInBounds_toArray, List.set_cons_zero, List.set_cons_succ]
  refine wpAnyH_take (i := 17) (v := undef) rfl (by kernel_rfl) (by kernel_rfl) (by kernel_rfl) (fun _ _ _ h => h) (Or.inr ⟨by kernel_rfl, rfl⟩) (by assumption) ?_
  try simp only [Act.put, List.getElem_toArray, List.getElem_cons_succ, List.getElem_cons_zero, List.setIfInBounds_toArray, List.set_cons_zero, List.set_cons_succ]
  refine wpAnyH_take (i := 18) (v := undef) rfl (by kernel_rfl) (by kernel_rfl) (by kernel_rfl) (fun _ _ _ h => h) (Or.inr ⟨by kernel_rfl, rfl⟩) (by assumption) ?_
  try simp only [Act.put, List.getElem_toArray, List.getElem_cons_succ, List.getElem_cons_zero, List.setIfInBounds_toArray, List.set_cons_zero, List.set_cons_succ]
  refine wpAnyH_take (i := 19) (v := ?_) rfl (by kernel_rfl) (by kernel_rfl) (by kernel_rfl) (fun _ _ _ h => h) (Or.inl ⟨by kernel_rfl, ?_⟩) (by assumption) ?_
  rotate_left
  · intro w hSw; (try dsimp only at hSw); go_simp; (try with_reducible rfl)
  try simp only [Act.put, List.getElem_toArray, List.getElem_cons_succ, List.getElem_cons_zero, List.setIfInBounds_toArray, List.set_cons_zero, List.set_cons_succ]
  refine wpAnyH_take (i := 20) (v := ?_) rfl (by kernel_rfl) (by kernel_rfl) (by kernel_rfl) (fun _ _ _ h => h) (Or.inl ⟨by kernel_rfl, ?_⟩) (by assumption) ?_
  rotate_left
  · intro w hSw; (try dsimp only at hSw); go_simp; (try with_reducible rfl)
  try simp only [Act.put, List.getElem_toArray, List.getElem_cons_succ, List.getElem_cons_zero, List.setIfInBounds_toArray, List.set_cons_zero, List.set_cons_succ]
  refine wpAnyH_take (i := 21) (v := ?_) rfl (by kernel_rfl) (by kernel_rfl) (by kernel_rfl) (fun _ _ _ h => h) (Or.inl ⟨by kernel_rfl, ?_⟩) (by assumption) ?_
  rotate_left
  · intro w hSw; (try dsimp only at hSw); go_simp; (try with_reducible rfl)
  try simp only [Act.put, List.getElem_toArray, List.getElem_cons_succ, List.getElem_cons_zero, List.setIfInBounds_toArray, List.set_cons_zero, List.set_cons_succ]
  refine wpAnyH_ready (rs := [22]) (by kernel_rfl) (by simp) ?_
  refine AllReadyH.cons rfl (fun K hK => ?_) AllReadyH.nil
  go_simp
  go_at_call 16
  refine (K4.out _ hR7.drew.bel).mono ?_
  rintro e w8 ⟨rfl, hb⟩
  have hR8 := Rb2.below hR7.drew hb
  clear hb
  refine hK.out _ _ hR8.held (fun hHeld => ?_)
  clear hK K
  try simp only [Act.put, List.getElem_toArray, List.getElem_cons_succ, List.getElem_cons_zero, List.setIfInBounds_toArray, List.set_cons_zero, List.set_cons_succ]
  refine wpAnyH_take (i := 23) (v := ?_) rfl (by kernel_rfl) (by kernel_rfl) (by kernel_rfl) (fun _ _ _ h => h) (Or.inl ⟨by kernel_rfl, ?_⟩) (by assumption) ?_
  rotate_left
  · intro w hSw; (try dsimp only at hSw); go_simp; (try with_reducible rfl)
  try simp only [Act.put, List.getElem_toArray, List.getElem_cons_succ, List.getElem_cons_zero, List.setIfInBounds_toArray, List.set_cons_zero, List.set_cons_succ]
  refine wpAnyH_take (i := 24) (v := ?_) rfl (by kernel_rfl) (by kernel_rfl) (by kernel_rfl) (fun _ _ _ h => h) (Or.inl ⟨by kernel_rfl, ?_⟩) (by assumption) ?_
  rotate_left
  · intro w hSw; (try dsimp only at hSw); go_simp; (try with_reducible rfl)
  try simp only [Act.put, List.getElem_toArray, List.getElem_cons_succ, List.getElem_cons_zero, List.setIfInBounds_toArray, List.set_cons_zero, List.set_cons_succ]
  refine wpAnyH_take (i := 25) (v := ?_) rfl (by kernel_rfl) (by kernel_rfl) (by kernel_rfl) (fun _ _ _ h => h) (Or.inl ⟨by kernel_rfl, ?_⟩) (by assumption) ?_
  rotate_left
  · intro w hSw; (try dsimp only at hSw); go_simp; (try with_reducible rfl)
  try simp only [Act.put, List.getElem_toArray, List.getElem_cons_succ, List.getElem_cons_zero, List.setIfInBounds_toArray, List.set_cons_zero, List.set_cons_succ]
  refine wpAnyH_done (by kernel_rfl) ?_ _
  go_wp2_with fail
  go_returns
  exact ⟨ret_bool (by simp), hR8.bel⟩

theorem rpre_walk (t t' : Int) (I I' : Nat → UInt32) (A B A' B' : Option Addr) (ps ps' : List Int) (ds ds' : List (Nat → UInt32)) (c e c' e' : Nat) (f f' : Int) (w : World) (hs : Sl w w.heap.size A ps.length (ps.map iv)) (hs' : Sl w w.heap.size A' ps'.length (ps'.map iv)) (hd : Sd w w.heap.size B ds) (hd' : Sd w w.heap.size B' ds') :
    Calls Tryd.prog 6 #[.agg #[.int .i64 t, .int .u32 (I 0).toNat, .int .u32 (I 1).toNat, .int .u32 (I 2).toNat, .int .u32 (I 3).toNat, .slice A ps.length c, .slice B ds.length e, .int .i64 f], .agg #[.int .i64 t', .int .u32 (I' 0).toNat, .int .u32 (I' 1).toNat, .int .u32 (I' 2).toNat, .int .u32 (I' 3).toNat, .slice A' ps'.length c', .slice B' ds'.length e', .int .i64 f']] w fun r w' => r = .returned (.bool true) ∧ Below w.heap.size w w' := by
  by_cases h : rightR t I ps ds.length f = true ∧ rightR t' I' ps' ds'.length f' = true
  · by_cases h2 : (bytesR t I ps ds f).length ≤ (bytesR t' I' ps' ds' f').length
    · exact rpre_a t t' I I' A B A' B' ps ps' ds ds' c e c' e' f f' w hs hs' hd hd' h.1 h.2 h2
    · exact rpre_b t t' I I' A B A' B' ps ps' ds ds' c e c' e' f f' w hs hs' hd hd' h.1 h.2 (by omega)
  · exact rpre_no t t' I I' A B A' B' ps ps' ds ds' c e c' e' f f' w hs hs' hd hd' h
end Go.Proofs.YtdkkomcokefkhaaDoor
