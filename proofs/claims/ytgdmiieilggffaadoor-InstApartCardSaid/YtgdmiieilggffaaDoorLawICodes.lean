/- The law InstCodes, walked. -/
import Derived.Test.YtgdmiieilggffaaDoorLawINames
import Derived.Test.YtgdmiieilggffaaDoorInM
import Derived.Test.YtgdmiieilggffaaDoorInQ
namespace Go.Proofs.YtgdmiieilggffaaDoor
open Go.RowKit

/-- What the walk of a law holds of its instruction. -/
structure Ic (w : World) (op a b c : Int) (W : World) : Prop where
  x : Ib w op a b c W
  po : Pow10 W
section
variable {w W W' : World} {op a b c : Int}
theorem Ic.below (h : Ic w op a b c W) (hb : Below W.heap.size W W') : Ic w op a b c W' := ⟨h.x.below hb, h.po.below hb⟩
theorem Ic.drew (h : Ic w op a b c W) : Ic w op a b c W.drew := h.below (Below.refl _ W).drew
theorem Ic.alloc (h : Ic w op a b c W) (o : Obj) : Ic w op a b c (W.alloc o) := h.below ((Below.refl _ W).alloc (Nat.le_refl _) o)
theorem Ic.held (h : Ic w op a b c W) : W.cell? ⟨w.heap.size, 0, none⟩ = some (.int .i64 op) ∧ W.cell? ⟨w.heap.size, 1, none⟩ = some (.int .i64 a) ∧ W.cell? ⟨w.heap.size, 2, none⟩ = some (.int .i64 b) ∧ W.cell? ⟨w.heap.size, 3, none⟩ = some (.int .i64 c) ∧ Ic w op a b c W :=
  ⟨h.x.all.1, h.x.all.2.1, h.x.all.2.2.1, h.x.all.2.2.2, h⟩
end

set_option maxHeartbeats 4000000 in
theorem icodes_walk (o a b c : Int) (w : World) (hp : Pow10 w) (ho : Is64 o) (ha : Is64 a) (hb : Is64 b) (hc : Is64 c) :
    Calls Tryd.prog 3 #[.agg #[.int .i64 o, .int .i64 a, .int .i64 b, .int .i64 c]] w fun e w' => e = .returned (.bool true) ∧ Below w.heap.size w w' := by
  have KA : Hid (∀ W, Pow10 W → Calls Tryd.prog 9 #[] W fun e w' => e = .returned (.bool true) ∧ Below W.heap.size W w') := in_alive
  have h0 : Ic w o a b c (w.alloc (.cells #[.int .i64 o, .int .i64 a, .int .i64 b, .int .i64 c] 23)) := ⟨Ib.new w o a b c, hp.below ((Below.refl _ w).alloc (Nat.le_refl _) _)⟩
  have heq := fun W => eqI_run o a b c o a b c W ho ha hb hc ho ha hb hc
  rw [decide_eq_true (⟨rfl, rfl, rfl, rfl⟩ : o = o ∧ a = a ∧ b = b ∧ c = c)] at heq
  obtain ⟨T, hT⟩ : ∃ T, textB o a b c = T := ⟨_, rfl⟩
  have t1 := inst_Text o a b c
  have t2 := ref_Text o a b c
  have r1 := inst_Right o a b c
  have r2 := ref_Right o a b c
  rw [hT] at t1 t2
  have T1 := Lib.hid t1
  have T2 := Lib.hid t2
  clear t1 t2 hT hp ho ha hb hc
  cases hr : rightI o a b c with
  | true =>
    rw [hr] at r1 r2
    have R1 := Lib.hid r1
    have R2 := Lib.hid r2
    obtain ⟨x, hx, e1, e2, e3, e4, e5⟩ := enc_word hr
    have k1 := fun W => inst_Encode o a b c W hr
    have k2 := fun W => ref_Encode o a b c W hr
    have k3 := fun W => inst_Decode_ok x W e5
    rw [← hx] at k1 k2
    rw [e1, e2, e3, e4] at k3
    have K1 := Lib.hid k1
    have K2 := Lib.hid k2
    have K3 := Lib.hid k3
    clear k1 k2 k3 e1 e2 e3 e4 e5 hx r1 r2 hr
    go_enter Tryd.func3, Tryd.ntmps3
    go_wp2_with fail
    refine (KA.out _ h0.po).mono ?_
    rintro e w1 ⟨rfl, hb1⟩
    have h1 := h0.below hb1
    obtain ⟨c0, c1, c2, c3, -⟩ := h1.held
    clear hb1 h0
    go_wp2_with fail
    refine (K1.out _).mono ?_
    rintro e w2 ⟨rfl, hb2⟩
    have h2 := h1.below hb2
    clear hb2 h1 c0 c1 c2 c3
    obtain ⟨c0, c1, c2, c3, -⟩ := h2.held
    go_wp2_with fail
    refine (K2.out _).mono ?_
    rintro e w3 ⟨rfl, hb3⟩
    have h3 := h2.below hb3
    clear hb3 h2 c0 c1 c2 c3
    go_wp2_with fail
    obtain ⟨c0, c1, c2, c3, HI3⟩ := h3.held
    clear h3
    go_region_held3 (fun W => W.cell? ⟨w.heap.size, 0, none⟩ = some (.int .i64 o) ∧ W.cell? ⟨w.heap.size, 1, none⟩ = some (.int .i64 a) ∧ W.cell? ⟨w.heap.size, 2, none⟩ = some (.int .i64 b) ∧ W.cell? ⟨w.heap.size, 3, none⟩ = some (.int .i64 c) ∧ Ic w o a b c W) ((refine Ic.held ?_; repeat (first | assumption | (refine Ic.drew ?_))))
    ((first
      | (go_at_call 12; go_split_ands; (with_reducible refine (R1.out _).mono ?_); rintro e w6 ⟨rfl, hb6⟩; have I6 := Ic.below (w := w) (op := o) (a := a) (b := b) (c := c) (by assumption) hb6)
      | (go_at_call 13; go_split_ands; (with_reducible refine (R2.out _).mono ?_); rintro e w6 ⟨rfl, hb6⟩; have I6 := Ic.below (w := w) (op := o) (a := a) (b := b) (c := c) (by assumption) hb6)
      | (go_at_call 14; go_split_ands; (with_reducible refine (T1.out _ ?_).mono ?_); (exact Ic.po (w := w) (op := o) (a := a) (b := b) (c := c) (by assumption)); rintro e w6 ⟨rfl, hb6⟩; have I6 := Ic.below (w := w) (op := o) (a := a) (b := b) (c := c) (by assumption) hb6)
      | (go_at_call 15; go_split_ands; (with_reducible refine (T2.out _).mono ?_); rintro e w6 ⟨rfl, hb6⟩; have I6 := Ic.below (w := w) (op := o) (a := a) (b := b) (c := c) (by assumption) hb6)))
    go_split_ands
    clear c0 c1 c2 c3
    go_wp2_with fail
    refine (K3.out _).mono ?_
    rintro e w7 ⟨rfl, hb7⟩
    have h7 := (I6.below hb7).alloc (.cells #[.int .i64 o, .int .i64 a, .int .i64 b, .int .i64 c] 23)
    have hN := Blk.new w7 23 #[.int .i64 o, .int .i64 a, .int .i64 b, .int .i64 c]
    have d0 := hN.cell 0
    have d1 := hN.cell 1
    have d2 := hN.cell 2
    have d3 := hN.cell 3
    obtain ⟨c0, c1, c2, c3, HI7⟩ := h7.held
    clear hb7 h7 hN
    go_wp2_with fail
    go_returns
    exact ⟨rfl, HI7.x.bel⟩
  | false =>
    rw [hr] at r1 r2
    have R1 := Lib.hid r1
    have R2 := Lib.hid r2
    have K1 := Lib.hid (fun W => inst_Encode_bad o a b c W hr)
    have K2 := Lib.hid (fun W => ref_Encode_bad o a b c W hr)
    have K3 := Lib.hid x_dec
    clear r1 r2 hr
    go_enter Tryd.func3, Tryd.ntmps3
    go_wp2_with fail
    refine (KA.out _ h0.po).mono ?_
    rintro e w1 ⟨rfl, hb1⟩
    have h1 := h0.below hb1
    obtain ⟨c0, c1, c2, c3, -⟩ := h1.held
    clear hb1 h0
    go_wp2_with fail
    refine (K1.out _).mono ?_
    rintro e w2 ⟨rfl, hb2⟩
    have h2 := h1.below hb2
    clear hb2 h1 c0 c1 c2 c3
    obtain ⟨c0, c1, c2, c3, -⟩ := h2.held
    go_wp2_with fail
    refine (K2.out _).mono ?_
    rintro e w3 ⟨rfl, hb3⟩
    have h3 := h2.below hb3
    clear hb3 h2 c0 c1 c2 c3
    go_wp2_with fail
    obtain ⟨c0, c1, c2, c3, HI3⟩ := h3.held
    clear h3
    go_region_held3 (fun W => W.cell? ⟨w.heap.size, 0, none⟩ = some (.int .i64 o) ∧ W.cell? ⟨w.heap.size, 1, none⟩ = some (.int .i64 a) ∧ W.cell? ⟨w.heap.size, 2, none⟩ = some (.int .i64 b) ∧ W.cell? ⟨w.heap.size, 3, none⟩ = some (.int .i64 c) ∧ Ic w o a b c W) ((refine Ic.held ?_; repeat (first | assumption | (refine Ic.drew ?_))))
    ((first
      | (go_at_call 12; go_split_ands; (with_reducible refine (R1.out _).mono ?_); rintro e w6 ⟨rfl, hb6⟩; have I6 := Ic.below (w := w) (op := o) (a := a) (b := b) (c := c) (by assumption) hb6)
      | (go_at_call 13; go_split_ands; (with_reducible refine (R2.out _).mono ?_); rintro e w6 ⟨rfl, hb6⟩; have I6 := Ic.below (w := w) (op := o) (a := a) (b := b) (c := c) (by assumption) hb6)
      | (go_at_call 14; go_split_ands; (with_reducible refine (T1.out _ ?_).mono ?_); (exact Ic.po (w := w) (op := o) (a := a) (b := b) (c := c) (by assumption)); rintro e w6 ⟨rfl, hb6⟩; have I6 := Ic.below (w := w) (op := o) (a := a) (b := b) (c := c) (by assumption) hb6)
      | (go_at_call 15; go_split_ands; (with_reducible refine (T2.out _).mono ?_); rintro e w6 ⟨rfl, hb6⟩; have I6 := Ic.below (w := w) (op := o) (a := a) (b := b) (c := c) (by assumption) hb6)))
    go_split_ands
    clear c0 c1 c2 c3
    go_wp2_with fail
    refine (K3.out _).mono ?_
    rintro e w7 ⟨rfl, hb7⟩
    have h7 := (I6.below hb7).alloc (.cells #[.int .i64 0, .int .i64 0, .int .i64 0, .int .i64 0] 23)
    clear hb7
    go_wp2_with fail
    go_returns
    exact ⟨rfl, h7.x.bel⟩
end Go.Proofs.YtgdmiieilggffaaDoor
