/- Layer 7's examples, walked. -/
import Derived.Test.YtgdmiieilggffaaDoorInL
namespace Go.Proofs.YtgdmiieilggffaaDoor
open Go.RowKit

theorem ex_t1 : textB 4 1 2 3 = ⟨#[97, 100, 100, 32, 114, 49, 44, 32, 114, 50, 44, 32, 114, 51]⟩ := by
  have i1 : Lib.itoa ((1 : Nat) : Int) = [49] := by rw [Lib.itoa_nonneg, Lib.decDigits_one (by decide)]; rfl
  have i2 : Lib.itoa ((2 : Nat) : Int) = [50] := by rw [Lib.itoa_nonneg, Lib.decDigits_one (by decide)]; rfl
  have i3 : Lib.itoa ((3 : Nat) : Int) = [51] := by rw [Lib.itoa_nonneg, Lib.decDigits_one (by decide)]; rfl
  unfold textB
  rw [if_pos (by decide +kernel)]
  show partS (partS (partS ⟨#[97, 100, 100]⟩ spS rS 1) commaS rS 2) commaS rS 3 = _
  unfold partS
  rw [i1, i2, i3]
  decide +kernel
theorem ex_t2 : textB 1 4 0 65535 = ⟨#[108, 105, 32, 114, 52, 44, 32, 54, 53, 53, 51, 53]⟩ := by
  have i1 : Lib.itoa ((4 : Nat) : Int) = [52] := by rw [Lib.itoa_nonneg, Lib.decDigits_one (by decide)]; rfl
  have i2 : Lib.itoa ((65535 : Nat) : Int) = [54, 53, 53, 51, 53] := by
    rw [Lib.itoa_nonneg, dec_rec' (by decide), dec_rec' (by decide), dec_rec' (by decide), dec_rec' (by decide), Lib.decDigits_one (by decide)]; rfl
  unfold textB
  rw [if_pos (by decide +kernel)]
  show partS (partS ⟨#[108, 105]⟩ spS rS 4) commaS emS 65535 = _
  unfold partS
  rw [i1, i2]
  decide +kernel
theorem x_enc1 (W : World) : Calls Tryd.prog 10 #[.agg #[.int .i64 4, .int .i64 1, .int .i64 2, .int .i64 3]] W fun e w' => e = .returned (.tuple #[.int .u32 68288515, .int .i64 0]) ∧ Below W.heap.size W w' :=
  inst_Encode 4 1 2 3 W (by decide +kernel)
theorem x_enc2 (W : World) : Calls Tryd.prog 10 #[.agg #[.int .i64 26, .int .i64 0, .int .i64 0, .int .i64 0]] W fun e w' => e = .returned (.tuple #[.int .u32 436207616, .int .i64 0]) ∧ Below W.heap.size W w' :=
  inst_Encode 26 0 0 0 W (by decide +kernel)
theorem x_dec (W : World) : Calls Tryd.prog 16 #[.int .u32 0] W fun e w' => e = .returned (.tuple #[.agg #[.int .i64 0, .int .i64 0, .int .i64 0, .int .i64 0], .int .i64 7]) ∧ Below W.heap.size W w' :=
  inst_Decode_bad 0 W (by decide +kernel)
theorem x_text1 (W : World) (hp : Pow10 W) : Calls Tryd.prog 14 #[.agg #[.int .i64 4, .int .i64 1, .int .i64 2, .int .i64 3]] W fun e w' => e = .returned (.string ⟨#[97, 100, 100, 32, 114, 49, 44, 32, 114, 50, 44, 32, 114, 51]⟩) ∧ Below W.heap.size W w' := by
  rw [← ex_t1]
  exact inst_Text 4 1 2 3 W hp
theorem x_text2 (W : World) (hp : Pow10 W) : Calls Tryd.prog 14 #[.agg #[.int .i64 1, .int .i64 4, .int .i64 0, .int .i64 65535]] W fun e w' => e = .returned (.string ⟨#[108, 105, 32, 114, 52, 44, 32, 54, 53, 53, 51, 53]⟩) ∧ Below W.heap.size W w' := by
  rw [← ex_t2]
  exact inst_Text 1 4 0 65535 W hp

/-- What the walk of the examples holds. -/
structure Al (w : World) (W : World) : Prop where
  x : Ib w 4 1 2 3 W
  po : Pow10 W
theorem Al.below {w W W' : World} (h : Al w W) (hb : Below W.heap.size W W') : Al w W' := ⟨h.x.below hb, h.po.below hb⟩
theorem Al.drew {w W : World} (h : Al w W) : Al w W.drew := h.below (Below.refl _ W).drew
theorem Al.alloc {w W : World} (h : Al w W) (o : Obj) : Al w (W.alloc o) := h.below ((Below.refl _ W).alloc (Nat.le_refl _) o)
theorem Al.held {w W : World} (h : Al w W) : W.cell? ⟨w.heap.size, 0, none⟩ = some (.int .i64 4) ∧ W.cell? ⟨w.heap.size, 1, none⟩ = some (.int .i64 1) ∧ W.cell? ⟨w.heap.size, 2, none⟩ = some (.int .i64 2) ∧ W.cell? ⟨w.heap.size, 3, none⟩ = some (.int .i64 3) ∧ Al w W :=
  ⟨h.x.all.1, h.x.all.2.1, h.x.all.2.2.1, h.x.all.2.2.2, h⟩

set_option maxHeartbeats 4000000 in
theorem in_alive (w : World) (hp : Pow10 w) :
    Calls Tryd.prog 9 #[] w fun e w' => e = .returned (.bool true) ∧ Below w.heap.size w w' := by
  have h0 : Al w (w.alloc (.cells #[.int .i64 4, .int .i64 1, .int .i64 2, .int .i64 3] 23)) := ⟨Ib.new w 4 1 2 3, hp.below ((Below.refl _ w).alloc (Nat.le_refl _) _)⟩
  go_enter Tryd.func9, Tryd.ntmps9
  go_wp2_with fail
  refine (x_enc1 _).mono ?_
  rintro e w1 ⟨rfl, hb1⟩
  have h1 := h0.below hb1
  clear hb1 h0
  go_wp2_with fail
  refine (x_enc2 _).mono ?_
  rintro e w2 ⟨rfl, hb2⟩
  have h2 := h1.below hb2
  clear hb2 h1
  go_wp2_with fail
  refine (x_dec _).mono ?_
  rintro e w3 ⟨rfl, hb3⟩
  have h3 := h2.below hb3
  have h4 := h3.alloc (.cells #[.int .i64 0, .int .i64 0, .int .i64 0, .int .i64 0] 23)
  obtain ⟨i0, i1, i2, i3, HI⟩ := h4.held
  clear hb3 h2 h3 h4
  go_wp2_with fail
  refine (x_text1 _ HI.po).mono ?_
  rintro e w5 ⟨rfl, hb5⟩
  have h5 := HI.below hb5
  clear hb5 HI i0 i1 i2 i3
  go_wp2_with fail
  refine (x_text2 _ h5.po).mono ?_
  rintro e w6 ⟨rfl, hb6⟩
  have h6 := h5.below hb6
  clear hb6 h5
  go_wp2_with fail
  go_returns
  exact ⟨rfl, h6.x.bel⟩
end Go.Proofs.YtgdmiieilggffaaDoor
