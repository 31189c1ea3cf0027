/- Layer 3's example, walked. -/
import Derived.Test.YtekpfpikbgiblaaDoorDgY
import Derived.Test.YtekpfpikbgiblaaDoorDgU
namespace Go.Proofs.YtekpfpikbgiblaaDoor
open Go.RowKit

/-- The boxes of the example: its digest, its state. -/
structure Aw (w : World) (g1 g5 : Nat) (W : World) : Prop where
  d : Blk W g1 25 #[.int .u32 1, .int .u32 2, .int .u32 3, .int .u32 255]
  s : Blk W g5 30 #[.int .u32 1, .int .u32 2, .int .u32 3, .int .u32 4, .int .u32 5, .int .u32 6, .int .u32 7, .int .u32 8]
  sm : Small W
  pl : Places W
  bel : Below w.heap.size w W
section
variable {w W W' : World} {g1 g5 : Nat}
theorem Aw.below (h : Aw w g1 g5 W) (hb : Below W.heap.size W W') : Aw w g1 g5 W' := ⟨h.d.below hb h.d.lt, h.s.below hb h.s.lt, h.sm.below hb h.sm.1, h.pl.below hb h.pl.1, h.bel.trans (hb.mono h.bel.size)⟩
theorem Aw.drew (h : Aw w g1 g5 W) : Aw w g1 g5 W.drew := h.below (Below.refl _ W).drew
theorem Aw.all (h : Aw w g1 g5 W) : W.cell? ⟨g1, 0, none⟩ = some (.int .u32 1) ∧ W.cell? ⟨g1, 1, none⟩ = some (.int .u32 2) ∧ W.cell? ⟨g1, 2, none⟩ = some (.int .u32 3) ∧ W.cell? ⟨g1, 3, none⟩ = some (.int .u32 255) ∧ W.cell? ⟨g5, 0, none⟩ = some (.int .u32 1) ∧ W.cell? ⟨g5, 1, none⟩ = some (.int .u32 2) ∧ W.cell? ⟨g5, 2, none⟩ = some (.int .u32 3) ∧ W.cell? ⟨g5, 3, none⟩ = some (.int .u32 4) ∧ W.cell? ⟨g5, 4, none⟩ = some (.int .u32 5) ∧ W.cell? ⟨g5, 5, none⟩ = some (.int .u32 6) ∧ W.cell? ⟨g5, 6, none⟩ = some (.int .u32 7) ∧ W.cell? ⟨g5, 7, none⟩ = some (.int .u32 8) ∧ Aw w g1 g5 W :=
  ⟨h.d.cell 0, h.d.cell 1, h.d.cell 2, h.d.cell 3, h.s.cell 0, h.s.cell 1, h.s.cell 2, h.s.cell 3, h.s.cell 4, h.s.cell 5, h.s.cell 6, h.s.cell 7, h⟩
end
def exF : Nat → UInt32 := fun k => UInt32.ofNat (k + 1)
def exD : Nat → UInt32 := fun k => if k = 3 then 255 else UInt32.ofNat (k + 1)
def exText : List UInt8 := [48, 48, 48, 48, 48, 48, 48, 49, 48, 48, 48, 48, 48, 48, 48, 50, 48, 48, 48, 48, 48, 48, 48, 51, 48, 48, 48, 48, 48, 48, 70, 70]
theorem ex_parse : (parseI exText).2.2 = true := by decide +kernel
theorem ex_digest : dgv (deB (parseI exText).1) = #[.int .u32 1, .int .u32 2, .int .u32 3, .int .u32 255] := by
  have h0 : deB (parseI exText).1 0 = 1 := by decide +kernel
  have h1 : deB (parseI exText).1 1 = 2 := by decide +kernel
  have h2 : deB (parseI exText).1 2 = 3 := by decide +kernel
  have h3 : deB (parseI exText).1 3 = 255 := by decide +kernel
  unfold dgv
  rw [h0, h1, h2, h3]
  rfl
theorem ex_text : hexT (beB exD) = [48, 48, 48, 48, 48, 48, 48, 49, 48, 48, 48, 48, 48, 48, 48, 50, 48, 48, 48, 48, 48, 48, 48, 51, 48, 48, 48, 48, 48, 48, 102, 102] := by decide +kernel
theorem ex_mix : stv (mix exF) = #[.int .u32 2423752598, .int .u32 2489644812, .int .u32 755327620, .int .u32 4151819776, .int .u32 2197377647, .int .u32 4195358711, .int .u32 2872994903, .int .u32 3928952227] := by
  have h0 : mix exF 0 = 2423752598 := by decide +kernel
  have h1 : mix exF 1 = 2489644812 := by decide +kernel
  have h2 : mix exF 2 = 755327620 := by decide +kernel
  have h3 : mix exF 3 = 4151819776 := by decide +kernel
  have h4 : mix exF 4 = 2197377647 := by decide +kernel
  have h5 : mix exF 5 = 4195358711 := by decide +kernel
  have h6 : mix exF 6 = 2872994903 := by decide +kernel
  have h7 : mix exF 7 = 3928952227 := by decide +kernel
  unfold stv
  rw [h0, h1, h2, h3, h4, h5, h6, h7]
  rfl
theorem ex_unmix : stv (unmix (mix exF)) = #[.int .u32 1, .int .u32 2, .int .u32 3, .int .u32 4, .int .u32 5, .int .u32 6, .int .u32 7, .int .u32 8] := by
  have h0 : unmix (mix exF) 0 = 1 := by decide +kernel
  have h1 : unmix (mix exF) 1 = 2 := by decide +kernel
  have h2 : unmix (mix exF) 2 = 3 := by decide +kernel
  have h3 : unmix (mix exF) 3 = 4 := by decide +kernel
  have h4 : unmix (mix exF) 4 = 5 := by decide +kernel
  have h5 : unmix (mix exF) 5 = 6 := by decide +kernel
  have h6 : unmix (mix exF) 6 = 7 := by decide +kernel
  have h7 : unmix (mix exF) 7 = 8 := by decide +kernel
  unfold stv
  rw [h0, h1, h2, h3, h4, h5, h6, h7]
  rfl

theorem exD_vals : dgv exD = #[.int .u32 1, .int .u32 2, .int .u32 3, .int .u32 255] := by rfl
theorem exF_vals : stv exF = #[.int .u32 1, .int .u32 2, .int .u32 3, .int .u32 4, .int .u32 5, .int .u32 6, .int .u32 7, .int .u32 8] := by rfl
theorem ex_Text (W : World) (hT : Small W) : Calls Tryd.prog 16 #[.agg #[.int .u32 1, .int .u32 2, .int .u32 3, .int .u32 255]] W fun e W' => e = .returned (.string ⟨#[48, 48, 48, 48, 48, 48, 48, 49, 48, 48, 48, 48, 48, 48, 48, 50, 48, 48, 48, 48, 48, 48, 48, 51, 48, 48, 48, 48, 48, 48, 102, 102]⟩) ∧ Below W.heap.size W W' := by
  rw [← exD_vals]
  refine (digest_Text exD W hT).mono ?_
  rintro e W' ⟨⟨t, rfl, ht⟩, hb⟩
  have h := ba_eq (ht.out.trans ex_text)
  subst h
  exact ⟨rfl, hb⟩
theorem ex_Mix (W : World) (hP : Places W) : Calls Tryd.prog 18 #[.agg #[.int .u32 1, .int .u32 2, .int .u32 3, .int .u32 4, .int .u32 5, .int .u32 6, .int .u32 7, .int .u32 8]] W fun e W' => e = .returned (.agg #[.int .u32 2423752598, .int .u32 2489644812, .int .u32 755327620, .int .u32 4151819776, .int .u32 2197377647, .int .u32 4195358711, .int .u32 2872994903, .int .u32 3928952227]) ∧ Below W.heap.size W W' := by
  rw [← exF_vals, ← ex_mix]
  exact digest_Mix exF W hP
theorem ex_Unmix (W : World) (hP : Places W) : Calls Tryd.prog 17 #[.agg #[.int .u32 2423752598, .int .u32 2489644812, .int .u32 755327620, .int .u32 4151819776, .int .u32 2197377647, .int .u32 4195358711, .int .u32 2872994903, .int .u32 3928952227]] W fun e W' => e = .returned (.agg #[.int .u32 1, .int .u32 2, .int .u32 3, .int .u32 4, .int .u32 5, .int .u32 6, .int .u32 7, .int .u32 8]) ∧ Below W.heap.size W W' := by
  rw [← ex_mix, ← ex_unmix]
  exact digest_Unmix (mix exF) W hP

set_option maxHeartbeats 4000000 in
theorem dg_awake (w : World) (hT : Small w) (hP : Places w) :
    Calls Tryd.prog 6 #[] w fun e w' => e = .returned (.bool true) ∧ Below w.heap.size w w' := by
  go_enter Tryd.func6, Tryd.ntmps6
  go_wp2_with fail
  refine (digest_Parse_ok _ _ (by rfl) hT (Lib.hid ex_parse)).mono ?_
  rintro e w1 ⟨he, hb1⟩
  rw [show (parseI (ByteArray.data _).toList).1 = (parseI exText).1 from rfl, ex_digest] at he
  subst he
  go_wp2_with fail
  refine (digest_Parse_short _ _ (by decide)).mono ?_
  rintro e w2 ⟨rfl, hb2⟩
  have hd2 := (Blk.new w1 25 #[.int .u32 1, .int .u32 2, .int .u32 3, .int .u32 255]).below hb2 (by simp)
  have bel2 := hb1.trans ((below_new hb2).mono hb1.size)
  clear hb1 hb2
  obtain ⟨g1, hg1⟩ : ∃ g1, w1.heap.size = g1 := ⟨_, rfl⟩
  rw [hg1] at hd2
  simp only [hg1]
  clear hg1
  unfold dgv
  simp only [wv]
  go_wp2_with fail
  have hA : Aw w g1 (w2.heap.size + 1) ((w2.alloc (.cells #[.int .u32 0, .int .u32 0, .int .u32 0, .int .u32 0] 25)).alloc (.cells #[.int .u32 1, .int .u32 2, .int .u32 3, .int .u32 4, .int .u32 5, .int .u32 6, .int .u32 7, .int .u32 8] 30)) := by
    have b := (bel2.alloc bel2.size (.cells #[.int .u32 0, .int .u32 0, .int .u32 0, .int .u32 0] 25)).alloc (by have := bel2.size; simp; omega) (.cells #[.int .u32 1, .int .u32 2, .int .u32 3, .int .u32 4, .int .u32 5, .int .u32 6, .int .u32 7, .int .u32 8] 30)
    refine ⟨(hd2.alloc _).alloc _, ?_, hT.below b hT.1, hP.below b hP.1, b⟩
    have h := Blk.new (w2.alloc (.cells #[.int .u32 0, .int .u32 0, .int .u32 0, .int .u32 0] 25)) 30 #[.int .u32 1, .int .u32 2, .int .u32 3, .int .u32 4, .int .u32 5, .int .u32 6, .int .u32 7, .int .u32 8]
    simpa using h
  clear hd2 bel2
  generalize w2.heap.size + 1 = g5 at hA ⊢
  generalize World.alloc _ _ = W0 at hA ⊢
  have e1 : ∀ w : World, (Op.equalIn 10000 25 (.agg #[.int .u32 1, .int .u32 2, .int .u32 3, .int .u32 255]) (.agg #[.int .u32 1, .int .u32 2, .int .u32 3, .int .u32 255])).run Tryd.prog w = .ok true w := fun _ => by kernel_rfl
  have e2 : ∀ w : World, (Op.equalIn 10000 30 (.agg #[.int .u32 1, .int .u32 2, .int .u32 3, .int .u32 4, .int .u32 5, .int .u32 6, .int .u32 7, .int .u32 8]) (.agg #[.int .u32 1, .int .u32 2, .int .u32 3, .int .u32 4, .int .u32 5, .int .u32 6, .int .u32 7, .int .u32 8])).run Tryd.prog w = .ok true w := fun _ => by kernel_rfl
  have e3 : ∀ w : World, (Op.equalIn 10000 30 (.agg #[.int .u32 2423752598, .int .u32 2489644812, .int .u32 755327620, .int .u32 4151819776, .int .u32 2197377647, .int .u32 4195358711, .int .u32 2872994903, .int .u32 3928952227]) (.agg #[.int .u32 1, .int .u32 2, .int .u32 3, .int .u32 4, .int .u32 5, .int .u32 6, .int .u32 7, .int .u32 8])).run Tryd.prog w = .ok false w := fun _ => by kernel_rfl
  go_region_held3 (fun W => W.cell? ⟨g1, 0, none⟩ = some (.int .u32 1) ∧ W.cell? ⟨g1, 1, none⟩ = some (.int .u32 2) ∧ W.cell? ⟨g1, 2, none⟩ = some (.int .u32 3) ∧ W.cell? ⟨g1, 3, none⟩ = some (.int .u32 255) ∧ W.cell? ⟨g5, 0, none⟩ = some (.int .u32 1) ∧ W.cell? ⟨g5, 1, none⟩ = some (.int .u32 2) ∧ W.cell? ⟨g5, 2, none⟩ = some (.int .u32 3) ∧ W.cell? ⟨g5, 3, none⟩ = some (.int .u32 4) ∧ W.cell? ⟨g5, 4, none⟩ = some (.int .u32 5) ∧ W.cell? ⟨g5, 5, none⟩ = some (.int .u32 6) ∧ W.cell? ⟨g5, 6, none⟩ = some (.int .u32 7) ∧ W.cell? ⟨g5, 7, none⟩ = some (.int .u32 8) ∧ Aw w g1 g5 W) ((refine Aw.all ?_; repeat (first | assumption | (refine Aw.drew ?_))))
    ((first
      | (go_at_call 16; go_split_ands; (with_reducible refine (ex_Text _ ?_).mono ?_); (exact Aw.sm (w := w) (g1 := g1) (g5 := g5) (by assumption)); rintro e w6 ⟨rfl, hb6⟩; have I6 := Aw.below (w := w) (g1 := g1) (g5 := g5) (by assumption) hb6)
      | (go_at_call 18; go_split_ands; (with_reducible refine (ex_Mix _ ?_).mono ?_); (exact Aw.pl (w := w) (g1 := g1) (g5 := g5) (by assumption)); rintro e w6 ⟨rfl, hb6⟩; have I6 := Aw.below (w := w) (g1 := g1) (g5 := g5) (by assumption) hb6)
      | (go_at_call 17; go_split_ands; (with_reducible refine (ex_Unmix _ ?_).mono ?_); (exact Aw.pl (w := w) (g1 := g1) (g5 := g5) (by assumption)); rintro e w6 ⟨rfl, hb6⟩; have I6 := Aw.below (w := w) (g1 := g1) (g5 := g5) (by assumption) hb6)))
  go_split_ands
  go_wp2_with fail
  go_returns
  exact ⟨rfl, Aw.bel (w := w) (g1 := g1) (g5 := g5) (by assumption)⟩
end Go.Proofs.YtekpfpikbgiblaaDoor
