/- Layer 50: the seed loads a text; walked. -/
import Derived.Test.YtepgnnlihnajeaaDoorSdH
import Derived.Test.YtepgnnlihnajeaaDoorHxS
namespace Go.Proofs.YtepgnnlihnajeaaDoor
open Go.RowKit

/-- The result's box in Loads. -/
structure Lo (w : World) (b : Nat) (T : ByteArray) (n : Nat) (W : World) : Prop where
  ex : Blk W b 52 #[.int .i64 1, .string T, .int .i64 n]
  bel : Below w.heap.size w W
section
variable {w W W' : World} {b n : Nat} {T : ByteArray}
theorem Lo.below (h : Lo w b T n W) (hb : Below W.heap.size W W') : Lo w b T n W' := ⟨h.ex.below hb h.ex.lt, h.bel.trans (hb.mono h.bel.size)⟩
theorem Lo.drew (h : Lo w b T n W) : Lo w b T n W.drew := h.below (Below.refl _ W).drew
theorem Lo.all (h : Lo w b T n W) : W.cell? ⟨b, 0, none⟩ = some (.int .i64 1) ∧ W.cell? ⟨b, 1, none⟩ = some (.string T) ∧ Lo w b T n W := ⟨h.ex.cell 0, h.ex.cell 1, h⟩
end

set_option maxHeartbeats 4000000 in
theorem ref_Loads (img t : ByteArray) (w : World) (hi : img.data.toList = putI seedW 0) (ht : t.size ≤ 20000) :
    Calls Tryd.prog 8 #[.string img, .string t] w fun e w' => e = .returned (.bool true) ∧ Below w.heap.size w w' := by
  have HI := Lib.hid hi
  have K0 : Hid (∀ W : World, Calls Tryd.prog 18 #[.int .i64 t.size] W fun e w' => e = .returned (.int .i64 ((40 * (t.size + 1) : Nat) : Int)) ∧ W = w') := fun W => ref_Steps t.size W ht
  have K1 : Hid (∀ W : World, Calls Tryd.prog 17 #[.string img, .string t, .int .i64 ((40 * (t.size + 1) : Nat) : Int)] W fun e w' => (∃ (T : ByteArray) (n : Nat), e = .returned (.tuple #[.agg #[.int .i64 1, .string T, .int .i64 n], .int .i64 0]) ∧ Hid (T.data.toList = loadL t.data.toList)) ∧ Below W.heap.size W w') := fun W => ref_BytesRun img t W hi ht
  have K2 := Lib.hid (fun W => ref_hexLoad t W (by omega))
  clear hi
  generalize 40 * (t.size + 1) = F at K0 K1
  go_enter Tryd.func8, Tryd.ntmps8
  go_wp2_with fail
  refine (K0.out _).mono ?_
  rintro e w0 ⟨rfl, rfl⟩
  go_wp2_with fail
  refine (K1.out _).mono ?_
  rintro e w1 ⟨⟨T, n, rfl, hT⟩, hb1⟩
  have hz := Blk.new w1 52 #[.int .i64 1, .string T, .int .i64 n]
  have hb := hb1.alloc hb1.size (.cells #[.int .i64 1, .string T, .int .i64 n] 52)
  go_wp2_with fail
  generalize World.alloc _ _ = W2 at hz hb ⊢
  generalize w1.heap.size = b at hz ⊢
  have h2 : Lo w b T n W2 := ⟨hz, hb⟩
  clear hz hb hb1 K0 K1
  go_region_held3 (fun W => W.cell? ⟨b, 0, none⟩ = some (.int .i64 1) ∧ W.cell? ⟨b, 1, none⟩ = some (.string T) ∧ Lo w b T n W) ((refine Lo.all ?_; repeat (first | assumption | (refine Lo.drew ?_))))
    ((first
      | (go_at_call 6; go_split_ands; (with_reducible refine (K2.out _).mono ?_); rintro e w6 ⟨⟨T2, rfl, hT2⟩, hb6⟩; have I6 := Lo.below (w := w) (b := b) (T := T) (n := n) (by assumption) hb6; obtain rfl : T2 = T := ba_inj (hT2.out.trans hT.out.symm))))
  go_split_ands
  go_wp2_with fail
  go_returns
  exact ⟨rfl, I6.bel⟩
end Go.Proofs.YtepgnnlihnajeaaDoor
