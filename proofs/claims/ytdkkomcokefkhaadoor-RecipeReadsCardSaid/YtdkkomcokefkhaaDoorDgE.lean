/- Layer 3: two states, two digests, compared by the program. -/
import Derived.Test.YtdkkomcokefkhaaDoorDgI
import Derived.Test.YtdkkomcokefkhaaDoorDgQ
import Derived.Test.YtdkkomcokefkhaaDoorInfo
import Derived.DeepKeys
namespace Go.Proofs.YtdkkomcokefkhaaDoor
open Go.RowKit

def eqS (f g : Nat → UInt32) : Bool := decide (f 0 = g 0 ∧ f 1 = g 1 ∧ f 2 = g 2 ∧ f 3 = g 3 ∧ f 4 = g 4 ∧ f 5 = g 5 ∧ f 6 = g 6 ∧ f 7 = g 7)
def eqD (f g : Nat → UInt32) : Bool := decide (f 0 = g 0 ∧ f 1 = g 1 ∧ f 2 = g 2 ∧ f 3 = g 3)
theorem eqS_true {f g : Nat → UInt32} : eqS f g = true ↔ Eq8 f g := by
  unfold eqS
  rw [decide_eq_true_iff]
  constructor
  · rintro ⟨h0, h1, h2, h3, h4, h5, h6, h7⟩ k hk
    match k, hk with
    | 0, _ => exact h0
    | 1, _ => exact h1
    | 2, _ => exact h2
    | 3, _ => exact h3
    | 4, _ => exact h4
    | 5, _ => exact h5
    | 6, _ => exact h6
    | 7, _ => exact h7
  · intro h
    exact ⟨h 0 (by decide), h 1 (by decide), h 2 (by decide), h 3 (by decide), h 4 (by decide), h 5 (by decide), h 6 (by decide), h 7 (by decide)⟩
theorem toNat_inj_int {a b : UInt32} (h : (a.toNat : Int) = b.toNat) : a = b := UInt32.toNat_inj.1 (by omega)
theorem key1 (x : UInt32) (d : Nat) : Tryd.prog.keyLits (d + 1) 22 [.int .u32 x.toNat] = some [.int .u32 x.toNat] := by
  unfold Program.keyLits
  rw [Tryd.underlying22]
  have hx := x.toNat_lt
  have h1 : IntKind.u32.min = 0 := by decide
  have h2 : IntKind.u32.max = 4294967295 := by decide
  have hw : (Lit.int .u32 (x.toNat : Int)).wf = true := by
    show (decide (IntKind.u32.min ≤ (x.toNat : Int)) && decide ((x.toNat : Int) ≤ IntKind.u32.max)) = true
    rw [h1, h2]
    simp
    omega
  simp [hw]
theorem key8 (f : Nat → UInt32) : Tryd.prog.keyLits 8 56 (Value.agg (stv f)).cells.toList = some [.int .u32 (f 0).toNat, .int .u32 (f 1).toNat, .int .u32 (f 2).toNat, .int .u32 (f 3).toNat, .int .u32 (f 4).toNat, .int .u32 (f 5).toNat, .int .u32 (f 6).toNat, .int .u32 (f 7).toNat] := by
  show Tryd.prog.keyLits 8 56 [.int .u32 (f 0).toNat, .int .u32 (f 1).toNat, .int .u32 (f 2).toNat, .int .u32 (f 3).toNat, .int .u32 (f 4).toNat, .int .u32 (f 5).toNat, .int .u32 (f 6).toNat, .int .u32 (f 7).toNat] = _
  unfold Program.keyLits
  rw [Tryd.underlying56]
  dsimp only
  rw [if_pos (by kernel_rfl), show Tryd.prog.cellsOf 22 = 1 by kernel_rfl, show List.range 8 = [0, 1, 2, 3, 4, 5, 6, 7] from rfl]
  simp only [List.mapM_cons, List.mapM_nil, Nat.reduceMul, List.drop_succ_cons, List.drop_zero, List.take_succ_cons, List.take_zero, key1]
  rfl
theorem key4 (f : Nat → UInt32) : Tryd.prog.keyLits 8 24 (Value.agg (dgv f)).cells.toList = some [.int .u32 (f 0).toNat, .int .u32 (f 1).toNat, .int .u32 (f 2).toNat, .int .u32 (f 3).toNat] := by
  show Tryd.prog.keyLits 8 24 [.int .u32 (f 0).toNat, .int .u32 (f 1).toNat, .int .u32 (f 2).toNat, .int .u32 (f 3).toNat] = _
  unfold Program.keyLits
  rw [Tryd.underlying24]
  dsimp only
  rw [if_pos (by kernel_rfl), show Tryd.prog.cellsOf 22 = 1 by kernel_rfl, show List.range 4 = [0, 1, 2, 3] from rfl]
  simp only [List.mapM_cons, List.mapM_nil, Nat.reduceMul, List.drop_succ_cons, List.drop_zero, List.take_succ_cons, List.take_zero, key1]
  rfl
theorem eqS_run (f g : Nat → UInt32) (w : World) : (Op.equalIn 10000 56 (.agg (stv f)) (.agg (stv g))).run Tryd.prog w = .ok (eqS f g) w := by
  obtain ⟨r, hr, hiff⟩ := run_equalIn_deep (P := Tryd.prog) 9997 3 56 (by kernel_rfl) w 8 8 (.agg (stv f)) (.agg (stv g)) [.int .u32 (f 0).toNat, .int .u32 (f 1).toNat, .int .u32 (f 2).toNat, .int .u32 (f 3).toNat, .int .u32 (f 4).toNat, .int .u32 (f 5).toNat, .int .u32 (f 6).toNat, .int .u32 (f 7).toNat] [.int .u32 (g 0).toNat, .int .u32 (g 1).toNat, .int .u32 (g 2).toNat, .int .u32 (g 3).toNat, .int .u32 (g 4).toNat, .int .u32 (g 5).toNat, .int .u32 (g 6).toNat, .int .u32 (g 7).toNat] (by kernel_rfl) (by kernel_rfl) (key8 f) (key8 g)
  rw [show (10000 : Nat) = 9997 + 3 from rfl, hr]
  congr 1
  rw [Bool.eq_iff_iff, hiff, eqS_true]
  constructor
  · intro h
    simp only [List.cons.injEq, Lit.int.injEq, true_and, and_true] at h
    obtain ⟨h0, h1, h2, h3, h4, h5, h6, h7⟩ := h
    intro k hk
    match k, hk with
    | 0, _ => exact toNat_inj_int h0
    | 1, _ => exact toNat_inj_int h1
    | 2, _ => exact toNat_inj_int h2
    | 3, _ => exact toNat_inj_int h3
    | 4, _ => exact toNat_inj_int h4
    | 5, _ => exact toNat_inj_int h5
    | 6, _ => exact toNat_inj_int h6
    | 7, _ => exact toNat_inj_int h7
  · intro h
    rw [h 0 (by decide), h 1 (by decide), h 2 (by decide), h 3 (by decide), h 4 (by decide), h 5 (by decide), h 6 (by decide), h 7 (by decide)]
theorem eqD_run (f g : Nat → UInt32) (w : World) : (Op.equalIn 10000 24 (.agg (dgv f)) (.agg (dgv g))).run Tryd.prog w = .ok (eqD f g) w := by
  obtain ⟨r, hr, hiff⟩ := run_equalIn_deep (P := Tryd.prog) 9997 3 24 (by kernel_rfl) w 8 8 (.agg (dgv f)) (.agg (dgv g)) [.int .u32 (f 0).toNat, .int .u32 (f 1).toNat, .int .u32 (f 2).toNat, .int .u32 (f 3).toNat] [.int .u32 (g 0).toNat, .int .u32 (g 1).toNat, .int .u32 (g 2).toNat, .int .u32 (g 3).toNat] (by kernel_rfl) (by kernel_rfl) (key4 f) (key4 g)
  rw [show (10000 : Nat) = 9997 + 3 from rfl, hr]
  congr 1
  unfold eqD
  rw [Bool.eq_iff_iff, hiff, decide_eq_true_iff]
  constructor
  · intro h
    simp only [List.cons.injEq, Lit.int.injEq, true_and, and_true] at h
    obtain ⟨h0, h1, h2, h3⟩ := h
    exact ⟨toNat_inj_int h0, toNat_inj_int h1, toNat_inj_int h2, toNat_inj_int h3⟩
  · rintro ⟨h0, h1, h2, h3⟩
    rw [h0, h1, h2, h3]
end Go.Proofs.YtdkkomcokefkhaaDoor
