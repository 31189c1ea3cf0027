/- Two instructions, compared by the program; an instruction among a law's inputs, opened. -/
import Derived.Test.YtgdmiieilggffaaDoorRd
import Derived.Test.YtgdmiieilggffaaDoorInL
import Derived.DeepKeys
import Derived.Lib.SmallJoins
namespace Go.Proofs.YtgdmiieilggffaaDoor
open Go.RowKit Go.ChangeShapes Go.Joins Go.Deep

theorem ikey1 (x : Int) (hx : Is64 x) (d : Nat) : Tryd.prog.keyLits (d + 1) 3 [.int .i64 x] = some [.int .i64 x] := by
  unfold Program.keyLits
  rw [Tryd.underlying3]
  have h1 : IntKind.i64.min = -9223372036854775808 := by decide
  have h2 : IntKind.i64.max = 9223372036854775807 := by decide
  have hw : (Lit.int .i64 x).wf = true := by
    show (decide (IntKind.i64.min ≤ x) && decide (x ≤ IntKind.i64.max)) = true
    rw [h1, h2]
    unfold Is64 at hx
    simp
    omega
  simp [hw]
theorem ikey4 (a b c d : Int) (ha : Is64 a) (hb : Is64 b) (hc : Is64 c) (hd : Is64 d) : Tryd.prog.keyLits 8 23 (Value.agg #[.int .i64 a, .int .i64 b, .int .i64 c, .int .i64 d]).cells.toList = some [.int .i64 a, .int .i64 b, .int .i64 c, .int .i64 d] := by
  show Tryd.prog.keyLits 8 23 [.int .i64 a, .int .i64 b, .int .i64 c, .int .i64 d] = _
  unfold Program.keyLits
  rw [Tryd.underlying23]
  dsimp only
  rw [if_pos ⟨by kernel_rfl, by kernel_rfl⟩]
  simp only [show Tryd.prog.cellsOf 3 = 1 by kernel_rfl, List.mapM_cons, List.mapM_nil, List.drop_succ_cons, List.drop_zero, List.take_succ_cons, List.take_zero, ikey1 _ ha, ikey1 _ hb, ikey1 _ hc, ikey1 _ hd]
  rfl
theorem eqI_run (a b c d a' b' c' d' : Int) (w : World) (ha : Is64 a) (hb : Is64 b) (hc : Is64 c) (hd : Is64 d) (ha' : Is64 a') (hb' : Is64 b') (hc' : Is64 c') (hd' : Is64 d') :
    (Op.equalIn 10000 23 (.agg #[.int .i64 a, .int .i64 b, .int .i64 c, .int .i64 d]) (.agg #[.int .i64 a', .int .i64 b', .int .i64 c', .int .i64 d'])).run Tryd.prog w = .ok (decide (a = a' ∧ b = b' ∧ c = c' ∧ d = d')) w := by
  obtain ⟨r, hr, hiff⟩ := run_equalIn_deep (P := Tryd.prog) 9997 3 23 (by kernel_rfl) w 8 8 (.agg #[.int .i64 a, .int .i64 b, .int .i64 c, .int .i64 d]) (.agg #[.int .i64 a', .int .i64 b', .int .i64 c', .int .i64 d']) [.int .i64 a, .int .i64 b, .int .i64 c, .int .i64 d] [.int .i64 a', .int .i64 b', .int .i64 c', .int .i64 d'] (by kernel_rfl) (by kernel_rfl) (ikey4 a b c d ha hb hc hd) (ikey4 a' b' c' d' ha' hb' hc' hd')
  rw [show (10000 : Nat) = 9997 + 3 from rfl, hr]
  congr 1
  rw [Bool.eq_iff_iff, hiff, decide_eq_true_iff]
  simp

section
variable {H : Type} {enc : TypeId × Value → H} {P : Program} {w : World} {base : Nat} {spare : Nat → Bool} {held : Bool} {r : Reach} {b0 : Nat} {t : TypeId} {v : Value} {d : DataW H} {ps : List MemPlace}
theorem rd_ints4 {f0 f1 f2 f3 : Field} (hs : P.underlying t = some (.struct #[f0, f1, f2, f3])) (hone : oneCellFields P #[f0, f1, f2, f3] = true) (hC : P.cellsOf t = 4) (h0 : P.underlying f0.type = some (.int .i64)) (h1 : P.underlying f1.type = some (.int .i64)) (h2 : P.underlying f2.type = some (.int .i64)) (h3 : P.underlying f3.type = some (.int .i64))
    (hv : Value.okWide P w r b0 t v) (h : DataW.Trod enc P w base spare held t v d ps) :
    ∃ a b c e : Int, v = .agg #[.int .i64 a, .int .i64 b, .int .i64 c, .int .i64 e] ∧ Is64 a ∧ Is64 b ∧ Is64 c ∧ Is64 e := by
  obtain ⟨v0, v1, v2, v3, y0, y1, y2, y3, n, rfl, _, rfl, k0, k1, k2, k3⟩ := open_agg4 hs hone hC hv h
  obtain ⟨a, ha, _, wa⟩ := DataW.trod_int h0 k0
  obtain ⟨b, hb, _, wb⟩ := DataW.trod_int h1 k1
  obtain ⟨c, hc, _, wc⟩ := DataW.trod_int h2 k2
  obtain ⟨e, he, _, we⟩ := DataW.trod_int h3 k3
  obtain rfl : v0 = .int .i64 a := by simpa using ha
  obtain rfl : v1 = .int .i64 b := by simpa using hb
  obtain rfl : v2 = .int .i64 c := by simpa using hc
  obtain rfl : v3 = .int .i64 e := by simpa using he
  exact ⟨a, b, c, e, rfl, bounds_i64 wa, bounds_i64 wb, bounds_i64 wc, bounds_i64 we⟩
end
end Go.Proofs.YtgdmiieilggffaaDoor
