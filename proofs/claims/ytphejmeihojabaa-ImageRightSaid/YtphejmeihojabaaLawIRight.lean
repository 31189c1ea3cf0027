/- ImageRight: the law's own text, walked. -/
import Derived.Test.YtphejmeihojabaaImgA
namespace Go.Proofs.Ytphejmeihojabaa
open Go.RowKit

theorem right_walk (xs ys : List UInt32) (A B : Option Addr) (c1 c2 : Nat) (d1 d2 : Int) (w : World) (hx : Sl w w.heap.size A xs.length (xs.map wv)) (hy : Sl w w.heap.size B ys.length (ys.map wv)) :
    Calls Try.prog 8 #[.agg #[.slice A xs.length c1, .int .i64 d1], .agg #[.slice B ys.length c2, .int .i64 d2]] w fun e w' => e = .returned (.bool true) ∧ Below w.heap.size w w' := by
  by_cases hbig : 20000 < xs.length ∨ 20000 < ys.length
  · have hc : 20000 < xs.length ∨ (xs.length ≤ 20000 ∧ 20000 < ys.length) := by omega
    clear hbig
    rcases hc with hc | ⟨hc, hc2⟩
    all_goals
      go_enter Try.func8, Try.ntmps8
      go_wp2_with fail
      refine (img_awake _).mono ?_
      rintro e w1 ⟨rfl, hb1⟩
      have h1 := (Im2.new w (.slice A xs.length c1) d1 (.slice B ys.length c2) d2).below hb1
      have a0 := h1.a.cell 0
      have b0 := h1.b.cell 0
      clear hb1
      go_wp2_with fail
      go_returns
      exact ⟨rfl, h1.bel⟩
  · have h1 : xs.length ≤ 20000 := by omega
    have h2 : ys.length ≤ 20000 := by omega
    clear hbig
    go_enter Try.func8, Try.ntmps8
    go_wp2_with fail
    refine (img_awake _).mono ?_
    rintro e w1 ⟨rfl, hb1⟩
    have I1 := (Im2.new w (.slice A xs.length c1) d1 (.slice B ys.length c2) d2).below hb1
    obtain ⟨a0, a1, b0, b1, _⟩ := I1.all
    clear hb1
    go_wp2_with fail
    clear a0 a1 b0 b1
    go_region_held3 (fun w' => w'.cell? ⟨w.heap.size, 0, none⟩ = some (.slice A xs.length c1) ∧ w'.cell? ⟨w.heap.size, 1, none⟩ = some (.int .i64 d1) ∧ w'.cell? ⟨w.heap.size + 1, 0, none⟩ = some (.slice B ys.length c2) ∧ w'.cell? ⟨w.heap.size + 1, 1, none⟩ = some (.int .i64 d2) ∧ Im2 w (.slice A xs.length c1) d1 (.slice B ys.length c2) d2 w') ((refine Im2.all ?_; repeat (first | assumption | (refine Im2.drew ?_) | (refine Im2.alloc ?_ _))))
      ((first
        | (go_at_call 17; (with_reducible refine (image_Right A xs.length c1 d1 _).mono ?_); rintro e w2 ⟨rfl, hb2⟩; have I2 := I1.drew.below hb2)
        | (go_at_call 16; (with_reducible refine (ref_Right A xs.length c1 d1 _).mono ?_); rintro e w3 ⟨rfl, hb3⟩; have I3 := I2.below hb3)
        | (go_at_call 18; (with_reducible refine (image_Same xs ys A B c1 c2 d1 d2 _ ?_ ?_ ?_).mono ?_); (exact (hx.below I3.bel).more I3.bel.size); (exact (hy.below I3.bel).more I3.bel.size); (omega); rintro e w4 ⟨rfl, hb4⟩; have I4 := I3.below hb4)
        | (go_at_call 14; (with_reducible refine (refI_Same xs ys A B c1 c2 d1 d2 _ ?_ ?_ ?_).mono ?_); (exact (hx.below I4.bel).more I4.bel.size); (exact (hy.below I4.bel).more I4.bel.size); (omega); rintro e w5 ⟨rfl, hb5⟩; have I5 := I4.below hb5)))
    go_wp2_with fail
    go_returns
    exact ⟨rfl, I5.bel⟩
end Go.Proofs.Ytphejmeihojabaa
