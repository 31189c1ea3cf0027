/- The law ListingApart, walked. -/
import Derived.Test.YtneebohaanjejaaDoorLk
import Derived.Test.YtneebohaanjejaaDoorImgT
namespace Go.Proofs.YtneebohaanjejaaDoor
open Go.RowKit

/-- The two images' boxes. -/
structure Ta (w : World) (A : Option Addr) (n c : Nat) (d : Int) (B : Option Addr) (m k : Nat) (f : Int) (W : World) : Prop where
  a : Blk W w.heap.size 25 #[.slice A n c, .int .i64 d]
  b : Blk W (w.heap.size + 1) 25 #[.slice B m k, .int .i64 f]
  bel : Below w.heap.size w W
section
variable {w W W' : World} {A B : Option Addr} {n c m k : Nat} {d f : Int}
theorem Ta.new (w : World) (A : Option Addr) (n c : Nat) (d : Int) (B : Option Addr) (m k : Nat) (f : Int) : Ta w A n c d B m k f ((w.alloc (.cells #[.slice A n c, .int .i64 d] 25)).alloc (.cells #[.slice B m k, .int .i64 f] 25)) := by
  refine ⟨(Blk.new w _ _).alloc _, ?_, ((Below.refl _ w).alloc (Nat.le_refl _) _).alloc (by simp) _⟩
  have h := Blk.new (w.alloc (.cells #[.slice A n c, .int .i64 d] 25)) 25 #[.slice B m k, .int .i64 f]
  simpa using h
theorem Ta.below (h : Ta w A n c d B m k f W) (hb : Below W.heap.size W W') : Ta w A n c d B m k f W' := ⟨h.a.below hb h.a.lt, h.b.below hb h.b.lt, h.bel.trans (hb.mono h.bel.size)⟩
theorem Ta.cells (h : Ta w A n c d B m k f W) : (W.cell? ⟨w.heap.size, 0, none⟩ = some (.slice A n c) ∧ W.cell? ⟨w.heap.size, 1, none⟩ = some (.int .i64 d)) ∧ W.cell? ⟨w.heap.size + 1, 0, none⟩ = some (.slice B m k) ∧ W.cell? ⟨w.heap.size + 1, 1, none⟩ = some (.int .i64 f) :=
  ⟨⟨h.a.cell 0, h.a.cell 1⟩, h.b.cell 0, h.b.cell 1⟩
end
theorem apart_same {xs ys : List UInt32} {dn fn : Nat} {s t : ByteArray} (hs : s.data.toList = textT xs dn) (ht : t.data.toList = textT ys fn) : (s.toList == t.toList) = sameB xs ys (dn : Int) (fn : Int) := by
  unfold sameB
  by_cases h : (dn : Int) = (fn : Int) ∧ xs = ys
  · obtain ⟨h1, rfl⟩ := h
    have h1 : dn = fn := by omega
    subst h1
    have e : s = t := (ba_eq hs).trans (ba_eq ht).symm
    subst e
    rw [decide_eq_true ⟨rfl, rfl⟩]
    exact beq_self_eq_true _
  · rw [decide_eq_false h, beq_eq_false_iff_ne]
    intro e
    apply h
    have e2 : s.data.toList = t.data.toList := by
      have h1 := Lib.toList_data s
      have h2 := Lib.toList_data t
      rw [← h1, ← h2, e]
    rw [hs, ht] at e2
    obtain ⟨k1, k2⟩ := text_apart e2
    exact ⟨by omega, k1⟩

set_option maxHeartbeats 1000000 in
theorem lapart_walk (xs : List UInt32) (A : Option Addr) (c : Nat) (d : Int) (ys : List UInt32) (B : Option Addr) (k : Nat) (f : Int) (w : World) (hA : Sl w w.heap.size A xs.length (xs.map wv)) (hB : Sl w w.heap.size B ys.length (ys.map wv)) (hp : Pow10 w) :
    Calls Tryd.prog 8 #[.agg #[.slice A xs.length c, .int .i64 d], .agg #[.slice B ys.length k, .int .i64 f]] w fun e w' => e = .returned (.bool true) ∧ Below w.heap.size w w' := by
  have KA := Lib.hid ls_awake
  have T0 := Ta.new w A xs.length c d B ys.length k f
  have hp0 := hp.below T0.bel
  have KX := Lib.hid (fun W => ref_Right A xs.length c d W)
  have KY := Lib.hid (fun W => ref_Right B ys.length k f W)
  have hcase : 100 < xs.length ∨ (xs.length ≤ 100 ∧ 100 < ys.length) ∨ (xs.length ≤ 100 ∧ ys.length ≤ 100) := by omega
  rcases hcase with h1 | ⟨h1, h2⟩ | ⟨h1, h2⟩
  · have hI : (100 : Int) < xs.length := by omega
    go_enter Tryd.func8, Tryd.ntmps8
    go_wp2_with fail
    refine (KA.out _ hp0).mono ?_
    rintro e w1 ⟨rfl, b1⟩
    have T1 := T0.below b1
    obtain ⟨⟨t0, t1⟩, t2, t3⟩ := T1.cells
    go_wp2_with fail
    go_returns
    exact ⟨rfl, T1.bel⟩
  · have hI : ¬ (100 : Int) < xs.length := by omega
    have hI2 : (100 : Int) < ys.length := by omega
    go_enter Tryd.func8, Tryd.ntmps8
    go_wp2_with fail
    refine (KA.out _ hp0).mono ?_
    rintro e w1 ⟨rfl, b1⟩
    have T1 := T0.below b1
    obtain ⟨⟨t0, t1⟩, t2, t3⟩ := T1.cells
    go_wp2_with fail
    go_returns
    exact ⟨rfl, T1.bel⟩
  have hI : ¬ (100 : Int) < xs.length := by omega
  have hI2 : ¬ (100 : Int) < ys.length := by omega
  cases hr : rightB xs.length d with
  | false =>
    rw [hr] at KX
    go_enter Tryd.func8, Tryd.ntmps8
    go_wp2_with fail
    refine (KA.out _ hp0).mono ?_
    rintro e w1 ⟨rfl, b1⟩
    have T1 := T0.below b1
    obtain ⟨⟨t0, t1⟩, t2, t3⟩ := T1.cells
    go_wp2_with fail
    refine (KX.out _).mono ?_
    rintro e w2 ⟨rfl, b2⟩
    have T2 := T1.below b2
    obtain ⟨⟨u0, u1⟩, u2, u3⟩ := T2.cells
    go_wp2_with fail
    go_returns
    exact ⟨rfl, T2.bel⟩
  | true =>
    rw [hr] at KX
    cases hq : rightB ys.length f with
    | false =>
      rw [hq] at KY
      go_enter Tryd.func8, Tryd.ntmps8
      go_wp2_with fail
      refine (KA.out _ hp0).mono ?_
      rintro e w1 ⟨rfl, b1⟩
      have T1 := T0.below b1
      obtain ⟨⟨t0, t1⟩, t2, t3⟩ := T1.cells
      go_wp2_with fail
      refine (KX.out _).mono ?_
      rintro e w2 ⟨rfl, b2⟩
      have T2 := T1.below b2
      obtain ⟨⟨u0, u1⟩, u2, u3⟩ := T2.cells
      clear t0 t1 t2 t3
      go_wp2_with fail
      refine (KY.out _).mono ?_
      rintro e w3 ⟨rfl, b3⟩
      have T3 := T2.below b3
      obtain ⟨⟨v0, v1⟩, v2, v3⟩ := T3.cells
      go_wp2_with fail
      go_returns
      exact ⟨rfl, T3.bel⟩
    | true =>
      rw [hq] at KY
      have hr2 := of_decide_eq_true hr
      have hq2 := of_decide_eq_true hq
      obtain ⟨dn, rfl⟩ : ∃ dn : Nat, d = (dn : Int) := ⟨d.toNat, by omega⟩
      obtain ⟨fn, rfl⟩ : ∃ fn : Nat, f = (fn : Int) := ⟨f.toNat, by omega⟩
      have K1 := Lib.hid (fun (W : World) (h : Below w.heap.size w W) => listing_Text A xs c dn W ((hA.below h).more h.size) hr (hp.below h))
      have K2 := Lib.hid (fun (W : World) (h : Below w.heap.size w W) => listing_Text B ys k fn W ((hB.below h).more h.size) hq (hp.below h))
      have KS := Lib.hid (fun (W : World) (h : Below w.heap.size w W) => refI_Same xs ys A B c k (dn : Int) (fn : Int) W ((hA.below h).more h.size) ((hB.below h).more h.size) (by omega))
      clear hr hq hr2 hq2
      go_enter Tryd.func8, Tryd.ntmps8
      go_wp2_with fail
      refine (KA.out _ hp0).mono ?_
      rintro e w1 ⟨rfl, b1⟩
      have T1 := T0.below b1
      obtain ⟨⟨t0, t1⟩, t2, t3⟩ := T1.cells
      go_wp2_with fail
      refine (KX.out _).mono ?_
      rintro e w2 ⟨rfl, b2⟩
      have T2 := T1.below b2
      obtain ⟨⟨t0, t1⟩, t2, t3⟩ := T2.cells
      go_wp2_with fail
      refine (KY.out _).mono ?_
      rintro e w3 ⟨rfl, b3⟩
      have T3 := T2.below b3
      obtain ⟨⟨t0, t1⟩, t2, t3⟩ := T3.cells
      clear T0 T1 T2 hp0 b1 b2 b3
      go_wp2_with fail
      refine (K1.out _ T3.bel).mono ?_
      rintro e w4 ⟨⟨s, rfl, hs⟩, b4⟩
      have T4 := T3.below b4
      obtain ⟨⟨t0, t1⟩, t2, t3⟩ := T4.cells
      go_wp2_with fail
      refine (K2.out _ T4.bel).mono ?_
      rintro e w5 ⟨⟨t, rfl, ht⟩, b5⟩
      have T5 := T4.below b5
      obtain ⟨⟨t0, t1⟩, t2, t3⟩ := T5.cells
      have hst := apart_same hs.out ht.out
      generalize sameB xs ys (dn : Int) (fn : Int) = z at hst KS
      clear T3 T4 b4 b5 K1 K2
      go_wp2_with fail
      refine (KS.out _ T5.bel).mono ?_
      rintro e w6 ⟨rfl, b6⟩
      have T6 := T5.below b6
      clear b6 T5 t0 t1 t2 t3
      go_wp2_with fail
      go_returns
      exact ⟨by simp, T6.bel⟩
end Go.Proofs.YtneebohaanjejaaDoor
