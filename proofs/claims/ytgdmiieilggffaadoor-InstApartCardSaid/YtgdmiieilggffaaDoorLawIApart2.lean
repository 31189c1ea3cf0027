/- The law InstApart, walked. -/
import Derived.Test.YtgdmiieilggffaaDoorLawICodes
namespace Go.Proofs.YtgdmiieilggffaaDoor
open Go.RowKit

/-- What the walk of a law holds of two instructions. -/
structure Ie (w : World) (o a b c p q r s : Int) (W : World) : Prop where
  x : Blk W w.heap.size 23 #[.int .i64 o, .int .i64 a, .int .i64 b, .int .i64 c]
  y : Blk W (w.heap.size + 1) 23 #[.int .i64 p, .int .i64 q, .int .i64 r, .int .i64 s]
  bel : Below w.heap.size w W
  po : Pow10 W
section
variable {w W W' : World} {o a b c p q r s : Int}
theorem Ie.new (hp : Pow10 w) : Ie w o a b c p q r s ((w.alloc (.cells #[.int .i64 o, .int .i64 a, .int .i64 b, .int .i64 c] 23)).alloc (.cells #[.int .i64 p, .int .i64 q, .int .i64 r, .int .i64 s] 23)) where
  x := (Blk.new w _ _).alloc _
  y := by
    have h2 := Blk.new (w.alloc (.cells #[.int .i64 o, .int .i64 a, .int .i64 b, .int .i64 c] 23)) 23 #[.int .i64 p, .int .i64 q, .int .i64 r, .int .i64 s]
    simpa using h2
  bel := ((Below.refl _ w).alloc (Nat.le_refl _) _).alloc (by simp) _
  po := (hp.below ((Below.refl _ w).alloc (Nat.le_refl _) _)).below ((Below.refl _ _).alloc (Nat.le_refl _) _)
theorem Ie.below (h : Ie w o a b c p q r s W) (hb : Below W.heap.size W W') : Ie w o a b c p q r s W' := ⟨h.x.below hb h.x.lt, h.y.below hb h.y.lt, below_tail h.bel hb, h.po.below hb⟩
theorem Ie.drew (h : Ie w o a b c p q r s W) : Ie w o a b c p q r s W.drew := h.below (Below.refl _ W).drew
theorem Ie.held (h : Ie w o a b c p q r s W) : W.cell? ⟨w.heap.size, 0, none⟩ = some (.int .i64 o) ∧ W.cell? ⟨w.heap.size, 1, none⟩ = some (.int .i64 a) ∧ W.cell? ⟨w.heap.size, 2, none⟩ = some (.int .i64 b) ∧ W.cell? ⟨w.heap.size, 3, none⟩ = some (.int .i64 c) ∧ W.cell? ⟨w.heap.size + 1, 0, none⟩ = some (.int .i64 p) ∧ W.cell? ⟨w.heap.size + 1, 1, none⟩ = some (.int .i64 q) ∧ W.cell? ⟨w.heap.size + 1, 2, none⟩ = some (.int .i64 r) ∧ W.cell? ⟨w.heap.size + 1, 3, none⟩ = some (.int .i64 s) ∧ Ie w o a b c p q r s W :=
  ⟨h.x.cell 0, h.x.cell 1, h.x.cell 2, h.x.cell 3, h.y.cell 0, h.y.cell 1, h.y.cell 2, h.y.cell 3, h⟩
end

set_option maxHeartbeats 4000000 in
theorem iapart_no1 (o a b c p q r s : Int) (w : World) (hp : Pow10 w) (hr : rightI o a b c = false) :
    Calls Tryd.prog 5 #[.agg #[.int .i64 o, .int .i64 a, .int .i64 b, .int .i64 c], .agg #[.int .i64 p, .int .i64 q, .int .i64 r, .int .i64 s]] w fun e w' => e = .returned (.bool true) ∧ Below w.heap.size w w' := by
  have KA : Hid (∀ W, Pow10 W → Calls Tryd.prog 9 #[] W fun e w' => e = .returned (.bool true) ∧ Below W.heap.size W w') := in_alive
  have h0 : Ie w o a b c p q r s _ := Ie.new hp
  have r1 := inst_Right o a b c
  rw [hr] at r1
  have R1 := Lib.hid r1
  clear r1 hp hr
  go_enter Tryd.func5, Tryd.ntmps5
  go_wp2_with fail
  refine (KA.out _ h0.po).mono ?_
  rintro e w1 ⟨rfl, hb1⟩
  have h1 := h0.below hb1
  obtain ⟨c0, c1, c2, c3, d0, d1, d2, d3, HI⟩ := h1.held
  clear hb1 h0 h1
  go_wp2_with fail
  refine (R1.out _).mono ?_
  rintro e w2 ⟨rfl, hb2⟩
  have h2 := HI.below hb2
  go_wp2_with fail
  go_returns
  exact ⟨rfl, h2.bel⟩

set_option maxHeartbeats 4000000 in
theorem iapart_no2 (o a b c p q r s : Int) (w : World) (hp : Pow10 w) (hr : rightI o a b c = true) (hr2 : rightI p q r s = false) :
    Calls Tryd.prog 5 #[.agg #[.int .i64 o, .int .i64 a, .int .i64 b, .int .i64 c], .agg #[.int .i64 p, .int .i64 q, .int .i64 r, .int .i64 s]] w fun e w' => e = .returned (.bool true) ∧ Below w.heap.size w w' := by
  have KA : Hid (∀ W, Pow10 W → Calls Tryd.prog 9 #[] W fun e w' => e = .returned (.bool true) ∧ Below W.heap.size W w') := in_alive
  have h0 : Ie w o a b c p q r s _ := Ie.new hp
  have r1 := inst_Right o a b c
  have r2 := inst_Right p q r s
  rw [hr] at r1
  rw [hr2] at r2
  have R1 := Lib.hid r1
  have R2 := Lib.hid r2
  clear r1 r2 hp hr hr2
  go_enter Tryd.func5, Tryd.ntmps5
  go_wp2_with fail
  refine (KA.out _ h0.po).mono ?_
  rintro e w1 ⟨rfl, hb1⟩
  have h1 := h0.below hb1
  obtain ⟨c0, c1, c2, c3, d0, d1, d2, d3, HI⟩ := h1.held
  clear hb1 h0 h1
  go_wp2_with fail
  refine (R1.out _).mono ?_
  rintro e w2 ⟨rfl, hb2⟩
  have h2 := HI.below hb2
  clear c0 c1 c2 c3 d0 d1 d2 d3 hb2 HI
  obtain ⟨c0, c1, c2, c3, d0, d1, d2, d3, HI⟩ := h2.held
  go_wp2_with fail
  refine (R2.out _).mono ?_
  rintro e w3 ⟨rfl, hb3⟩
  have h3 := HI.below hb3
  go_wp2_with fail
  go_returns
  exact ⟨rfl, h3.bel⟩

set_option maxHeartbeats 4000000 in
theorem iapart_yes (o a b c p q r s : Int) (x y : UInt32) (T U : ByteArray) (z : Bool) (w : World) (hp : Pow10 w)
    (heq : ∀ W, (Op.equalIn 10000 23 (.agg #[.int .i64 o, .int .i64 a, .int .i64 b, .int .i64 c]) (.agg #[.int .i64 p, .int .i64 q, .int .i64 r, .int .i64 s])).run Tryd.prog W = .ok z W)
    (hxy : ((x.toNat : Int) == (y.toNat : Int)) = z) (hTU : (T.toList == U.toList) = z)
    (R1 : Hid (∀ W, Calls Tryd.prog 12 #[.agg #[.int .i64 o, .int .i64 a, .int .i64 b, .int .i64 c]] W fun e w' => e = .returned (.bool true) ∧ Below W.heap.size W w'))
    (R2 : Hid (∀ W, Calls Tryd.prog 12 #[.agg #[.int .i64 p, .int .i64 q, .int .i64 r, .int .i64 s]] W fun e w' => e = .returned (.bool true) ∧ Below W.heap.size W w'))
    (K1 : Hid (∀ W, Calls Tryd.prog 10 #[.agg #[.int .i64 o, .int .i64 a, .int .i64 b, .int .i64 c]] W fun e w' => e = .returned (.tuple #[.int .u32 x.toNat, .int .i64 0]) ∧ Below W.heap.size W w'))
    (K2 : Hid (∀ W, Calls Tryd.prog 10 #[.agg #[.int .i64 p, .int .i64 q, .int .i64 r, .int .i64 s]] W fun e w' => e = .returned (.tuple #[.int .u32 y.toNat, .int .i64 0]) ∧ Below W.heap.size W w'))
    (T1 : Hid (∀ W, Pow10 W → Calls Tryd.prog 14 #[.agg #[.int .i64 o, .int .i64 a, .int .i64 b, .int .i64 c]] W fun e w' => e = .returned (.string T) ∧ Below W.heap.size W w'))
    (T2 : Hid (∀ W, Pow10 W → Calls Tryd.prog 14 #[.agg #[.int .i64 p, .int .i64 q, .int .i64 r, .int .i64 s]] W fun e w' => e = .returned (.string U) ∧ Below W.heap.size W w')) :
    Calls Tryd.prog 5 #[.agg #[.int .i64 o, .int .i64 a, .int .i64 b, .int .i64 c], .agg #[.int .i64 p, .int .i64 q, .int .i64 r, .int .i64 s]] w fun e w' => e = .returned (.bool true) ∧ Below w.heap.size w w' := by
  have KA : Hid (∀ W, Pow10 W → Calls Tryd.prog 9 #[] W fun e w' => e = .returned (.bool true) ∧ Below W.heap.size W w') := in_alive
  have h0 : Ie w o a b c p q r s _ := Ie.new hp
  clear hp
  go_enter Tryd.func5, Tryd.ntmps5
  go_wp2_with fail
  refine (KA.out _ h0.po).mono ?_
  rintro e w1 ⟨rfl, hb1⟩
  have h1 := h0.below hb1
  obtain ⟨c0, c1, c2, c3, d0, d1, d2, d3, HI⟩ := h1.held
  clear hb1 h0 h1
  go_wp2_with fail
  refine (R1.out _).mono ?_
  rintro e w2 ⟨rfl, hb2⟩
  have h2 := HI.below hb2
  clear c0 c1 c2 c3 d0 d1 d2 d3 hb2 HI
  obtain ⟨c0, c1, c2, c3, d0, d1, d2, d3, HI⟩ := h2.held
  clear h2
  go_wp2_with fail
  refine (R2.out _).mono ?_
  rintro e w3 ⟨rfl, hb3⟩
  have h3 := HI.below hb3
  clear c0 c1 c2 c3 d0 d1 d2 d3 hb3 HI
  obtain ⟨c0, c1, c2, c3, d0, d1, d2, d3, HI⟩ := h3.held
  clear h3
  go_wp2_with fail
  refine (K1.out _).mono ?_
  rintro e w4 ⟨rfl, hb4⟩
  have h4 := HI.below hb4
  clear c0 c1 c2 c3 d0 d1 d2 d3 hb4 HI
  obtain ⟨c0, c1, c2, c3, d0, d1, d2, d3, HI⟩ := h4.held
  clear h4
  go_wp2_with fail
  refine (K2.out _).mono ?_
  rintro e w5 ⟨rfl, hb5⟩
  have h5 := HI.below hb5
  clear c0 c1 c2 c3 d0 d1 d2 d3 hb5 HI
  obtain ⟨c0, c1, c2, c3, d0, d1, d2, d3, HI⟩ := h5.held
  clear h5
  go_wp2_with fail
  go_region_held3 (fun W => W.cell? ⟨w.heap.size, 0, none⟩ = some (.int .i64 o) ∧ W.cell? ⟨w.heap.size, 1, none⟩ = some (.int .i64 a) ∧ W.cell? ⟨w.heap.size, 2, none⟩ = some (.int .i64 b) ∧ W.cell? ⟨w.heap.size, 3, none⟩ = some (.int .i64 c) ∧ W.cell? ⟨w.heap.size + 1, 0, none⟩ = some (.int .i64 p) ∧ W.cell? ⟨w.heap.size + 1, 1, none⟩ = some (.int .i64 q) ∧ W.cell? ⟨w.heap.size + 1, 2, none⟩ = some (.int .i64 r) ∧ W.cell? ⟨w.heap.size + 1, 3, none⟩ = some (.int .i64 s) ∧ Ie w o a b c p q r s W) ((refine Ie.held ?_; repeat (first | assumption | (refine Ie.drew ?_))))
    ((first
      | (go_at_call 14; go_split_ands; (with_reducible refine (T1.out _ ?_).mono ?_); (exact Ie.po (w := w) (o := o) (a := a) (b := b) (c := c) (p := p) (q := q) (r := r) (s := s) (by assumption)); rintro e w6 ⟨rfl, hb6⟩; have I6 := Ie.below (w := w) (o := o) (a := a) (b := b) (c := c) (p := p) (q := q) (r := r) (s := s) (by assumption) hb6)
      | (go_at_call 14; go_split_ands; (with_reducible refine (T2.out _ ?_).mono ?_); (exact Ie.po (w := w) (o := o) (a := a) (b := b) (c := c) (p := p) (q := q) (r := r) (s := s) (by assumption)); rintro e w6 ⟨rfl, hb6⟩; have I6 := Ie.below (w := w) (o := o) (a := a) (b := b) (c := c) (p := p) (q := q) (r := r) (s := s) (by assumption) hb6)))
  go_split_ands
  clear c0 c1 c2 c3 d0 d1 d2 d3
  go_wp2_with fail
  go_returns
  exact ⟨rfl, I6.bel⟩

theorem iapart_walk (o a b c p q r s : Int) (w : World) (hp : Pow10 w) :
    Calls Tryd.prog 5 #[.agg #[.int .i64 o, .int .i64 a, .int .i64 b, .int .i64 c], .agg #[.int .i64 p, .int .i64 q, .int .i64 r, .int .i64 s]] w fun e w' => e = .returned (.bool true) ∧ Below w.heap.size w w' := by
  cases hr : rightI o a b c with
  | false => exact iapart_no1 o a b c p q r s w hp hr
  | true =>
    cases hr2 : rightI p q r s with
    | false => exact iapart_no2 o a b c p q r s w hp hr hr2
    | true =>
      obtain ⟨x, hx, -⟩ := enc_word hr
      obtain ⟨y, hy, -⟩ := enc_word hr2
      have k1 := fun W => inst_Encode o a b c W hr
      have k2 := fun W => inst_Encode p q r s W hr2
      rw [← hx] at k1
      rw [← hy] at k2
      have r1 := inst_Right o a b c
      have r2 := inst_Right p q r s
      rw [hr] at r1
      rw [hr2] at r2
      have I : ∀ {o a b c : Int}, rightI o a b c = true → Is64 o ∧ Is64 a ∧ Is64 b ∧ Is64 c := by
        intro o a b c h
        obtain ⟨⟨o1, o2⟩, ⟨a1, a2⟩, ⟨b1, b2⟩, ⟨c1, c2⟩⟩ := right_bounds h
        unfold Is64
        omega
      obtain ⟨i1, i2, i3, i4⟩ := I hr
      obtain ⟨j1, j2, j3, j4⟩ := I hr2
      refine iapart_yes o a b c p q r s x y (textB o a b c) (textB p q r s) _ w hp (fun W => eqI_run o a b c p q r s W i1 i2 i3 i4 j1 j2 j3 j4) ?_ ?_ r1 r2 k1 k2 (inst_Text o a b c) (inst_Text p q r s)
      · rw [Bool.eq_iff_iff, beq_iff_eq, decide_eq_true_iff, hx, hy]
        exact ⟨fun e => enc_inj hr hr2 e, fun ⟨e1, e2, e3, e4⟩ => by rw [e1, e2, e3, e4]⟩
      · rw [Bool.eq_iff_iff, beq_iff_eq, decide_eq_true_iff, Lib.toList_data, Lib.toList_data]
        exact ⟨fun e => text_inj hr hr2 (ba_inj e), fun ⟨e1, e2, e3, e4⟩ => by rw [e1, e2, e3, e4]⟩
end Go.Proofs.YtgdmiieilggffaaDoor
