/- Layer 37: two recipes, alike? The program's answer, walked. -/
/- Layer 37: two recipes, alike? The document's answer, walked. -/
import Derived.Test.YtdkkomcokefkhaaDoorRcF
namespace Go.Proofs.YtdkkomcokefkhaaDoor
open Go.RowKit

/-- Two recipes in a function's first boxes. -/
structure Rb2 (w : World) (t : Int) (I : Nat → UInt32) (p i : Value) (f : Int) (t' : Int) (I' : Nat → UInt32) (p' i' : Value) (f' : Int) (W : World) : Prop where
  x : Blk W w.heap.size 28 (recv t I p i f)
  y : Blk W (w.heap.size + 1) 28 (recv t' I' p' i' f')
  bel : Below w.heap.size w W
section
variable {w W W' : World} {t f t' f' : Int} {I I' : Nat → UInt32} {p i p' i' : Value}
theorem Rb2.new (w : World) (t : Int) (I : Nat → UInt32) (p i : Value) (f : Int) (t' : Int) (I' : Nat → UInt32) (p' i' : Value) (f' : Int) : Rb2 w t I p i f t' I' p' i' f' ((w.alloc (.cells (recv t I p i f) 28)).alloc (.cells (recv t' I' p' i' f') 28)) where
  x := (Blk.new w _ _).alloc _
  y := by
    have h := Blk.new (w.alloc (.cells (recv t I p i f) 28)) 28 (recv t' I' p' i' f')
    rw [show (w.alloc (.cells (recv t I p i f) 28)).heap.size = w.heap.size + 1 by simp] at h
    exact h
  bel := ((Below.refl _ w).alloc (Nat.le_refl _) _).alloc (by simp) _
theorem Rb2.below (h : Rb2 w t I p i f t' I' p' i' f' W) (hb : Below W.heap.size W W') : Rb2 w t I p i f t' I' p' i' f' W' := ⟨h.x.below hb h.x.lt, h.y.below hb h.y.lt, h.bel.trans (hb.mono h.bel.size)⟩
theorem Rb2.all (h : Rb2 w t I p i f t' I' p' i' f' W) : W.cell? ⟨w.heap.size, 0, none⟩ = some (.int .i64 t) ∧ W.cell? ⟨w.heap.size, 1, none⟩ = some (.int .u32 (I 0).toNat) ∧ W.cell? ⟨w.heap.size, 2, none⟩ = some (.int .u32 (I 1).toNat) ∧ W.cell? ⟨w.heap.size, 3, none⟩ = some (.int .u32 (I 2).toNat) ∧ W.cell? ⟨w.heap.size, 4, none⟩ = some (.int .u32 (I 3).toNat) ∧ W.cell? ⟨w.heap.size, 5, none⟩ = some (p) ∧ W.cell? ⟨w.heap.size, 6, none⟩ = some (i) ∧ W.cell? ⟨w.heap.size, 7, none⟩ = some (.int .i64 f) ∧ W.cell? ⟨w.heap.size + 1, 0, none⟩ = some (.int .i64 t') ∧ W.cell? ⟨w.heap.size + 1, 1, none⟩ = some (.int .u32 (I' 0).toNat) ∧ W.cell? ⟨w.heap.size + 1, 2, none⟩ = some (.int .u32 (I' 1).toNat) ∧ W.cell? ⟨w.heap.size + 1, 3, none⟩ = some (.int .u32 (I' 2).toNat) ∧ W.cell? ⟨w.heap.size + 1, 4, none⟩ = some (.int .u32 (I' 3).toNat) ∧ W.cell? ⟨w.heap.size + 1, 5, none⟩ = some (p') ∧ W.cell? ⟨w.heap.size + 1, 6, none⟩ = some (i') ∧ W.cell? ⟨w.heap.size + 1, 7, none⟩ = some (.int .i64 f') :=
  ⟨h.x.cell 0, h.x.cell 1, h.x.cell 2, h.x.cell 3, h.x.cell 4, h.x.cell 5, h.x.cell 6, h.x.cell 7, h.y.cell 0, h.y.cell 1, h.y.cell 2, h.y.cell 3, h.y.cell 4, h.y.cell 5, h.y.cell 6, h.y.cell 7⟩
end
/-- Alike, field by field. -/
def sameR (t t' : Int) (I I' : Nat → UInt32) (f f' : Int) (ps ps' : List Int) (ds ds' : List (Nat → UInt32)) : Bool :=
  decide (t = t') && (eqD I I' && (decide (f = f') && (decide (ps = ps') && eqDs ds ds')))

set_option maxHeartbeats 4000000 in
theorem recipe_Same (t t' : Int) (I I' : Nat → UInt32) (A B A' B' : Option Addr) (ps ps' : List Int) (ds ds' : List (Nat → UInt32)) (c e c' e' : Nat) (f f' : Int) (w : World)
    (hs : Sl w w.heap.size A ps.length (ps.map iv)) (hs' : Sl w w.heap.size A' ps'.length (ps'.map iv)) (hd : Sd w w.heap.size B ds) (hd' : Sd w w.heap.size B' ds') (hn : ps.length ≤ 1000000000) (hm : ds.length ≤ 1000000000) :
    Calls Tryd.prog 22 #[.agg #[.int .i64 t, .int .u32 (I 0).toNat, .int .u32 (I 1).toNat, .int .u32 (I 2).toNat, .int .u32 (I 3).toNat, .slice A ps.length c, .slice B ds.length e, .int .i64 f], .agg #[.int .i64 t', .int .u32 (I' 0).toNat, .int .u32 (I' 1).toNat, .int .u32 (I' 2).toNat, .int .u32 (I' 3).toNat, .slice A' ps'.length c', .slice B' ds'.length e', .int .i64 f']] w fun r w' => r = .returned (.bool (sameR t t' I I' f f' ps ps' ds ds')) ∧ Below w.heap.size w w' := by
  have h0 := Rb2.new w t I (.slice A ps.length c) (.slice B ds.length e) f t' I' (.slice A' ps'.length c') (.slice B' ds'.length e') f'
  obtain ⟨P, hP⟩ : ∃ P, sameR t t' I I' f f' ps ps' ds ds' = P := ⟨_, rfl⟩
  rw [hP]
  have heq := eqD_run I I'
  unfold dgv at heq
  simp only [wv] at heq
  obtain ⟨z, hz⟩ : ∃ z, eqD I I' = z := ⟨_, rfl⟩
  rw [hz] at heq
  unfold sameR at hP
  rw [hz] at hP
  obtain ⟨c0, c1, c2, c3, c4, c5, c6, c7, d0, d1, d2, d3, d4, d5, d6, d7⟩ := h0.all
  by_cases h1 : t = t'
  case neg =>
    rw [decide_eq_false h1, Bool.false_and] at hP
    have q1 : (t == t') = false := by rw [beq_eq_false_iff_ne]; exact h1
    subst hP
    go_enter Tryd.func22, Tryd.ntmps22
    go_wp2_with fail
    go_returns
    exact ⟨rfl, h0.bel⟩
  subst h1
  rw [decide_eq_true rfl, Bool.true_and] at hP
  cases z with
  | false =>
    rw [Bool.false_and] at hP
    subst hP
    go_enter Tryd.func22, Tryd.ntmps22
    go_wp2_with fail
    go_returns
    exact ⟨rfl, h0.bel⟩
  | true =>
    rw [Bool.true_and] at hP
    by_cases h2 : f = f'
    case neg =>
      rw [decide_eq_false h2, Bool.false_and] at hP
      have q1 : (f == f') = false := by rw [beq_eq_false_iff_ne]; exact h2
      subst hP
      go_enter Tryd.func22, Tryd.ntmps22
      go_wp2_with fail
      go_returns
      exact ⟨rfl, h0.bel⟩
    subst h2
    rw [decide_eq_true rfl, Bool.true_and] at hP
    have k1 := fun W h h' => slices_EqualI ps ps' A A' c c' W h h' (by omega)
    have k2 := fun W h h' => slices_EqualD ds ds' B B' e e' W h h' hm
    obtain ⟨z1, hz1⟩ : ∃ z1, decide (ps = ps') = z1 := ⟨_, rfl⟩
    rw [hz1] at hP k1
    have K1 := Lib.hid k1
    have K2 := Lib.hid k2
    have HI := Lib.hid h0
    clear k1 k2 hz1
    go_enter Tryd.func22, Tryd.ntmps22
    go_wp2_with fail
    refine (K1.out _ ((hs.below HI.out.bel).more HI.out.bel.size) ((hs'.below HI.out.bel).more HI.out.bel.size)).mono ?_
    rintro r w1 ⟨rfl, hb1⟩
    have h1 := HI.out.below hb1
    clear c0 c1 c2 c3 c4 c5 c6 c7 d0 d1 d2 d3 d4 d5 d6 d7
    obtain ⟨c0, c1, c2, c3, c4, c5, c6, c7, d0, d1, d2, d3, d4, d5, d6, d7⟩ := h1.all
    cases z1 with
    | false =>
      rw [Bool.false_and] at hP
      subst hP
      go_wp2_with fail
      go_returns
      exact ⟨rfl, h1.bel⟩
    | true =>
      rw [Bool.true_and] at hP
      go_wp2_with fail
      refine (K2.out _ ((hd.below h1.bel).more h1.bel.size) ((hd'.below h1.bel).more h1.bel.size)).mono ?_
      rintro r w2 ⟨⟨z2, rfl, HZ2⟩, hb2⟩
      have h2 := h1.below hb2
      have HP2 : Hid (z2 = P) := by unfold Hid; rw [HZ2.out, hP]
      clear HZ2 hP
      go_wp2_with fail
      go_returns
      exact ⟨ret_bool (by simp [HP2.out]), h2.bel⟩
end Go.Proofs.YtdkkomcokefkhaaDoor
namespace Go.Proofs.YtdkkomcokefkhaaDoor
open Go.RowKit

theorem Rb2.drewN {w W : World} {t f t' f' : Int} {I I' : Nat → UInt32} {p i p' i' : Value} (h : Rb2 w t I p i f t' I' p' i' f' W) (n : Nat) : Rb2 w t I p i f t' I' p' i' f' (W.drewN n) := ⟨h.x, h.y, below_drewN h.bel n⟩
set_option maxRecDepth 100000 in
set_option maxHeartbeats 4000000 in
theorem refR_Same (t t' : Int) (I I' : Nat → UInt32) (A B A' B' : Option Addr) (ps ps' : List Int) (ds ds' : List (Nat → UInt32)) (c e c' e' : Nat) (f f' : Int) (w : World)
    (hs : Sl w w.heap.size A ps.length (ps.map iv)) (hs' : Sl w w.heap.size A' ps'.length (ps'.map iv)) (hd : Sd w w.heap.size B ds) (hd' : Sd w w.heap.size B' ds') (hn : ps.length ≤ 1000000000) (hm : ds.length ≤ 1000000000) :
    Calls Tryd.prog 16 #[.agg #[.int .i64 t, .int .u32 (I 0).toNat, .int .u32 (I 1).toNat, .int .u32 (I 2).toNat, .int .u32 (I 3).toNat, .slice A ps.length c, .slice B ds.length e, .int .i64 f], .agg #[.int .i64 t', .int .u32 (I' 0).toNat, .int .u32 (I' 1).toNat, .int .u32 (I' 2).toNat, .int .u32 (I' 3).toNat, .slice A' ps'.length c', .slice B' ds'.length e', .int .i64 f']] w fun r w' => r = .returned (.bool (sameR t t' I I' f f' ps ps' ds ds')) ∧ Below w.heap.size w w' := by
  have h0 := Rb2.new w t I (.slice A ps.length c) (.slice B ds.length e) f t' I' (.slice A' ps'.length c') (.slice B' ds'.length e') f'
  obtain ⟨P, hP⟩ : ∃ P, sameR t t' I I' f f' ps ps' ds ds' = P := ⟨_, rfl⟩
  rw [hP]
  have heq := eqD_run I I'
  unfold dgv at heq
  simp only [wv] at heq
  obtain ⟨z, hz⟩ : ∃ z, eqD I I' = z := ⟨_, rfl⟩
  rw [hz] at heq
  have HP : Hid (P = (decide (t = t') && (z && (decide (f = f') && (decide (ps = ps') && eqDs ds ds'))))) := by unfold Hid; rw [← hP, ← hz]; rfl
  clear hP
  obtain ⟨c0, c1, c2, c3, c4, c5, c6, c7, d0, d1, d2, d3, d4, d5, d6, d7⟩ := h0.all
  by_cases h1 : t = t'
  case neg =>
    have HR : Hid (P = false) := by unfold Hid; rw [HP.out, decide_eq_false h1, Bool.false_and]
    have q1 : (t == t') = false := by rw [beq_eq_false_iff_ne]; exact h1
    go_enter Tryd.func16, Tryd.ntmps16
    go_wp2_with fail
    go_returns
    exact ⟨ret_bool (by rw [HR.out]), h0.bel⟩
  subst h1
  cases z with
  | false =>
    have HR : Hid (P = false) := by unfold Hid; rw [HP.out, Bool.false_and, Bool.and_false]
    go_enter Tryd.func16, Tryd.ntmps16
    go_wp2_with fail
    go_returns
    exact ⟨ret_bool (by rw [HR.out]), h0.bel⟩
  | true =>
    by_cases h2 : f = f'
    case neg =>
      have HR : Hid (P = false) := by unfold Hid; rw [HP.out, decide_eq_false h2, Bool.false_and, Bool.and_false, Bool.and_false]
      have q1 : (f == f') = false := by rw [beq_eq_false_iff_ne]; exact h2
      go_enter Tryd.func16, Tryd.ntmps16
      go_wp2_with fail
      go_returns
      exact ⟨ret_bool (by rw [HR.out]), h0.bel⟩
    subst h2
    by_cases h3 : ps.length = ps'.length
    case neg =>
      have HR : Hid (P = false) := by 
        have hne : ps ≠ ps' := fun e => h3 (by rw [e])
        unfold Hid
        rw [HP.out]
        simp [hne]
      have q1 : ((ps.length : Int) == ps'.length) = false := by rw [beq_eq_false_iff_ne]; omega
      have q1b : ((ps.length : Int) != ps'.length) = true := by rw [bne_iff_ne]; omega
      go_enter Tryd.func16, Tryd.ntmps16
      go_wp2_with fail
      go_returns
      exact ⟨ret_bool (by rw [HR.out]), h0.bel⟩
    have q3 : ((ps.length : Int) == ps'.length) = true := by rw [beq_iff_eq]; omega
    have q3b : ((ps.length : Int) != ps'.length) = false := by rw [bne_eq_false_iff_eq]; omega
    have q3n : (ps.length == ps'.length) = true := by rw [beq_iff_eq]; exact h3
    have H3 := Lib.hid h3
    clear h3
    by_cases h4 : ds.length = ds'.length
    case neg =>
      have HR : Hid (P = false) := by 
        have hne : eqDs ds ds' = false := decide_eq_false (fun e => h4 e.1)
        unfold Hid
        rw [HP.out, hne]
        simp
      have q1 : ((ds.length : Int) == ds'.length) = false := by rw [beq_eq_false_iff_ne]; omega
      have q1b : ((ds.length : Int) != ds'.length) = true := by rw [bne_iff_ne]; omega
      go_enter Tryd.func16, Tryd.ntmps16
      go_wp2_with fail
      go_returns
      exact ⟨ret_bool (by rw [HR.out]), h0.bel⟩
    have q4 : ((ds.length : Int) == ds'.length) = true := by rw [beq_iff_eq]; omega
    have q4b : ((ds.length : Int) != ds'.length) = false := by rw [bne_eq_false_iff_eq]; omega
    have q4n : (ds.length == ds'.length) = true := by rw [beq_iff_eq]; exact h4
    have HI := Lib.hid h0
    have H4 := Lib.hid h4
    clear h4
    go_enter Tryd.func16, Tryd.ntmps16
    go_wp2_with fail
    clear c0 c1 c2 c3 c4 c5 c6 c7 d0 d1 d2 d3 d4 d5 d6 d7
    go_loopw [5] (fun i wr => ∃ k : Nat, k ≤ ps.length ∧ i = .int .i64 k ∧ Hid (ps.take k = ps'.take k) ∧ Rb2 w t I (.slice A ps.length c) (.slice B ds.length e) f t I' (.slice A' ps'.length c') (.slice B' ds'.length e') f wr) (fun i _ => ps.length - (intOf i).toNat)
    case atStart => exact ⟨0, Nat.zero_le _, rfl, rfl, HI.out⟩
    case round =>
      obtain ⟨k, hk, rfl, hE, hR2⟩ := hrel
      obtain ⟨c0, c1, c2, c3, c4, c5, c6, c7, d0, d1, d2, d3, d4, d5, d6, d7⟩ := hR2.all
      have HB := Lib.hid hR2
      by_cases hlt : k < ps.length
      · have hlt2 : k < ps'.length := by have := H3.out; omega
        obtain ⟨b, off, hA, hb, hc1⟩ := (hs.below hR2.bel).int hlt
        obtain ⟨b2, off2, hA2, hb2, hc2⟩ := (hs'.below hR2.bel).int hlt2
        subst hA
        subst hA2
        have hltI : (k : Int) < ps.length := by omega
        have hltJ : (k : Int) < ps'.length := by omega
        have hk0 : (0 : Int) ≤ k := by omega
        obtain ⟨x, hx⟩ : ∃ x, ps[k] = x := ⟨_, rfl⟩
        obtain ⟨y, hy⟩ : ∃ y, ps'[k] = y := ⟨_, rfl⟩
        rw [hx] at hc1
        rw [hy] at hc2
        have HX := Lib.hid hx
        have HY := Lib.hid hy
        clear hx hy
        by_cases hxy : x = y
        · have q : (x == y) = true := by rw [beq_iff_eq]; exact hxy
          have HN : Hid (ps.take (k + 1) = ps'.take (k + 1)) := by
            unfold Hid
            rw [List.take_succ_eq_append_getElem hlt, List.take_succ_eq_append_getElem hlt2, hE.out, HX.out, HY.out, hxy]
          clear hxy
          go_wp2_with fail
          go_quiet (fail)
          go_wp2_with fail
          go_roundw
          case rel => exact ⟨k + 1, hlt, rfl, HN, HB.out.drewN _⟩
          case measure => simp [intOf]; omega
        · have q : (x == y) = false := by rw [beq_eq_false_iff_ne]; exact hxy
          have HR : Hid (P = false) := by
            have hne : ps ≠ ps' := fun e => hxy (by rw [← HX.out, ← HY.out]; simp [e])
            unfold Hid
            rw [HP.out]
            simp [hne]
          clear hxy
          go_wp2_with fail
          go_quiet (fail)
          go_wp2_with fail
          go_returns
          exact ⟨ret_bool (by rw [HR.out]), below_drewN HB.out.bel _⟩
      · obtain rfl : k = ps.length := by omega
        have HPS : Hid (ps = ps') := by
          have h := hE.out
          rw [List.take_length, H3.out, List.take_length] at h
          exact h
        go_wp2_with fail
        clear c0 c1 c2 c3 c4 c5 c6 c7 d0 d1 d2 d3 d4 d5 d6 d7 hR2
        go_loopw [6] (fun i wr => ∃ k : Nat, k ≤ ds.length ∧ i = .int .i64 k ∧ Hid (∀ j (h : j < ds.length) (h' : j < ds'.length), j < k → eqD ds[j] ds'[j] = true) ∧ Rb2 w t I (.slice A ps.length c) (.slice B ds.length e) f t I' (.slice A' ps'.length c') (.slice B' ds'.length e') f wr) (fun i _ => ds.length - (intOf i).toNat)
        case atStart => exact ⟨0, Nat.zero_le _, rfl, fun j _ _ h => absurd h (by omega), HB.out⟩
        case round =>
          obtain ⟨k, hk, rfl, hE2, hR2⟩ := hrel
          obtain ⟨c0, c1, c2, c3, c4, c5, c6, c7, d0, d1, d2, d3, d4, d5, d6, d7⟩ := hR2.all
          have HB2 := Lib.hid hR2
          by_cases hlt : k < ds.length
          · have hlt2 : k < ds'.length := by have := H4.out; omega
            obtain ⟨b, off, hA, hb, hc1⟩ := (hd.below hR2.bel) (by omega)
            obtain ⟨b2, off2, hA2, hb2, hc2⟩ := (hd'.below hR2.bel) (by omega)
            subst hA
            subst hA2
            obtain ⟨p0, p1, p2, p3⟩ := dcell (hc1 k hlt)
            obtain ⟨r0, r1, r2, r3⟩ := dcell (hc2 k hlt2)
            have hltI : (k : Int) < ds.length := by omega
            have hltJ : (k : Int) < ds'.length := by omega
            have hk0 : (0 : Int) ≤ k := by omega
            obtain ⟨x, hxk⟩ : ∃ x, ds[k] = x := ⟨_, rfl⟩
            obtain ⟨y, hyk⟩ : ∃ y, ds'[k] = y := ⟨_, rfl⟩
            rw [hxk] at p0 p1 p2 p3
            rw [hyk] at r0 r1 r2 r3
            have heq2 := eqD_run x y
            unfold dgv at heq2
            simp only [wv] at heq2
            obtain ⟨zz2, hz2⟩ : ∃ z, eqD x y = z := ⟨_, rfl⟩
            rw [hz2] at heq2
            have HX := Lib.hid hxk
            have HY := Lib.hid hyk
            have HZ := Lib.hid hz2
            have m1 : k * 4 = 4 * k := Nat.mul_comm k 4
            clear hxk hyk hz2 hc1 hc2 hR2
            cases zz2 with
            | true =>
              go_wp2_with fail
              go_quiet (fail)
              go_wp2_with fail
              go_roundw
              case rel =>
                refine ⟨k + 1, hlt, rfl, fun j h h' hj => ?_, HB2.out.drewN _⟩
                by_cases hjk : j = k
                · subst hjk
                  rw [HX.out, HY.out]
                  exact HZ.out
                · exact hE2.out j h h' (by omega)
              case measure => simp [intOf]; omega
            | false =>
              have HR : Hid (P = false) := by
                have hne : eqDs ds ds' = false := by
                  refine decide_eq_false ?_
                  intro h
                  have h2 := h.2 k hlt hlt2
                  rw [HX.out, HY.out, HZ.out] at h2
                  exact absurd h2 (by decide)
                unfold Hid
                rw [HP.out, hne]
                simp
              go_wp2_with fail
              go_quiet (fail)
              go_wp2_with fail
              go_returns
              exact ⟨ret_bool (by rw [HR.out]), below_drewN HB2.out.bel _⟩
          · have HR : Hid (P = true) := by
              have he : eqDs ds ds' = true := decide_eq_true ⟨H4.out, fun j h h' => hE2.out j h h' (by omega)⟩
              unfold Hid
              rw [HP.out, he]
              simp [HPS.out]
            obtain rfl : k = ds.length := by omega
            go_wp2_with fail
            go_returns
            exact ⟨ret_bool (by rw [HR.out]), HB2.out.bel⟩
end Go.Proofs.YtdkkomcokefkhaaDoor
