/- An image among a law's inputs, opened. -/
import Derived.Test.YtneebohaanjejaaDoorRd
import Derived.Lib.SmallJoins
namespace Go.Proofs.YtneebohaanjejaaDoor
open Go.RowKit Go.ChangeShapes Go.Joins Go.Deep

section
variable {H : Type} {enc : TypeId × Value → H} {P : Program} {w : World} {base : Nat} {spare : Nat → Bool} {held : Bool} {r : Reach} {b0 : Nat} {t : TypeId} {v : Value} {d : DataW H} {ps : List MemPlace}
theorem rd_image {e : TypeId} {f0 f1 : Field} (hs : P.underlying t = some (.struct #[f0, f1])) (hone : oneCellFields P #[f0, f1] = true) (hC : P.cellsOf t = 2) (h0 : P.underlying f0.type = some (.slice e)) (he : P.underlying e = some (.int .u32))
    (h1 : P.underlying f1.type = some (.int .i64)) (hc : P.cellsOf e = 1) (hv : Value.okWide P w r b0 t v) (h : DataW.Trod enc P w base spare held t v d ps) {B : Nat} (hlt : ∀ p ∈ ps, p.block < B) :
    ∃ (A : Option Addr) (c : Nat) (xs : List UInt32) (y : Int), v = .agg #[.slice A xs.length c, .int .i64 y] ∧ xs.length ≤ c ∧ c ≤ maxLen ∧ Sl w B A xs.length (xs.map wv) ∧ Is64 y := by
  obtain ⟨v0, v1, y0, y1, n, rfl, _, rfl, k0, k1⟩ := open_agg2 hs hone hC hv h
  obtain ⟨A, c, xs, rfl, hl, hm, hS⟩ := rdf_words h0 he hc k0 (B := B) (fun p hp => hlt p (List.mem_append_left _ hp))
  obtain ⟨y, hy, _, hw⟩ := DataW.trod_int h1 k1
  obtain rfl : v1 = .int .i64 y := by simpa using hy
  exact ⟨A, c, xs, y, rfl, hl, hm, hS, bounds_i64 hw⟩
end
end Go.Proofs.YtneebohaanjejaaDoor
