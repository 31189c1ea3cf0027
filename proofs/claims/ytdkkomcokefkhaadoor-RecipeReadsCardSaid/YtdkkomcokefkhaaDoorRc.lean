/- Layer 37: a recipe in a box; is a recipe one that may be? -/
import Derived.Test.YtdkkomcokefkhaaDoorLib
import Derived.Test.YtdkkomcokefkhaaDoorInfo
import Derived.Test.YtdkkomcokefkhaaDoorChecked
import Derived.DeepKeys
namespace Go.Proofs.YtdkkomcokefkhaaDoor
open Go.RowKit

/-- A recipe's cells: the tool, the image's digest, the passes, the inputs, the fuel. -/
def recv (t : Int) (I : Nat → UInt32) (p i : Value) (f : Int) : Array Value := #[.int .i64 t, .int .u32 (I 0).toNat, .int .u32 (I 1).toNat, .int .u32 (I 2).toNat, .int .u32 (I 3).toNat, p, i, .int .i64 f]
structure Rb (w : World) (t : Int) (I : Nat → UInt32) (p i : Value) (f : Int) (W : World) : Prop where
  x : Blk W w.heap.size 28 (recv t I p i f)
  bel : Below w.heap.size w W
section
variable {w W W' : World} {t f : Int} {I : Nat → UInt32} {p i : Value}
theorem Rb.new (w : World) (t : Int) (I : Nat → UInt32) (p i : Value) (f : Int) : Rb w t I p i f (w.alloc (.cells (recv t I p i f) 28)) := ⟨Blk.new w _ _, (Below.refl _ w).alloc (Nat.le_refl _) _⟩
theorem Rb.below (h : Rb w t I p i f W) (hb : Below W.heap.size W W') : Rb w t I p i f W' := ⟨h.x.below hb h.x.lt, h.bel.trans (hb.mono h.bel.size)⟩
theorem Rb.drew (h : Rb w t I p i f W) : Rb w t I p i f W.drew := h.below (Below.refl _ W).drew
theorem Rb.alloc (h : Rb w t I p i f W) (o : Obj) : Rb w t I p i f (W.alloc o) := h.below ((Below.refl _ W).alloc (Nat.le_refl _) o)
theorem Rb.all (h : Rb w t I p i f W) : W.cell? ⟨w.heap.size, 0, none⟩ = some (.int .i64 t) ∧ W.cell? ⟨w.heap.size, 1, none⟩ = some (.int .u32 (I 0).toNat) ∧ W.cell? ⟨w.heap.size, 2, none⟩ = some (.int .u32 (I 1).toNat) ∧ W.cell? ⟨w.heap.size, 3, none⟩ = some (.int .u32 (I 2).toNat) ∧ W.cell? ⟨w.heap.size, 4, none⟩ = some (.int .u32 (I 3).toNat) ∧ W.cell? ⟨w.heap.size, 5, none⟩ = some p ∧ W.cell? ⟨w.heap.size, 6, none⟩ = some i ∧ W.cell? ⟨w.heap.size, 7, none⟩ = some (.int .i64 f) :=
  ⟨h.x.cell 0, h.x.cell 1, h.x.cell 2, h.x.cell 3, h.x.cell 4, h.x.cell 5, h.x.cell 6, h.x.cell 7⟩
end

set_option maxHeartbeats 1000000 in
theorem refR_Few (t : Int) (I : Nat → UInt32) (A B : Option Addr) (n c m e : Nat) (f : Int) (k : Nat) (w : World) :
    Calls Tryd.prog 10 #[.agg #[.int .i64 t, .int .u32 (I 0).toNat, .int .u32 (I 1).toNat, .int .u32 (I 2).toNat, .int .u32 (I 3).toNat, .slice A n c, .slice B m e, .int .i64 f], .int .i64 (k : Int)] w fun r w' => r = .returned (.bool (decide (n ≤ k ∧ m ≤ k))) ∧ Below w.heap.size w w' := by
  have h0 := Rb.new w t I (.slice A n c) (.slice B m e) f
  obtain ⟨c0, c1, c2, c3, c4, c5, c6, c7⟩ := h0.all
  have hc : (n ≤ k ∧ m ≤ k) ∨ (n ≤ k ∧ k < m) ∨ k < n := by omega
  rcases hc with ⟨h1, h2⟩ | ⟨h1, h2⟩ | h1
  · have HR : Hid (decide (n ≤ k ∧ m ≤ k) = true) := decide_eq_true ⟨h1, h2⟩
    have j1 : (n : Int) ≤ k := by omega
    have j2 : (m : Int) ≤ k := by omega
    clear h1 h2
    go_enter Tryd.func10, Tryd.ntmps10
    go_wp2_with fail
    go_returns
    exact ⟨ret_bool (by rw [HR.out]), h0.bel⟩
  · have HR : Hid (decide (n ≤ k ∧ m ≤ k) = false) := decide_eq_false (by omega)
    have j1 : (n : Int) ≤ k := by omega
    have j2 : ((m : Int) ≤ k) = False := eq_false (by omega)
    clear h1 h2
    go_enter Tryd.func10, Tryd.ntmps10
    go_wp2_with fail
    go_returns
    exact ⟨ret_bool (by rw [HR.out]), h0.bel⟩
  · have HR : Hid (decide (n ≤ k ∧ m ≤ k) = false) := decide_eq_false (by omega)
    have j1 : ((n : Int) ≤ k) = False := eq_false (by omega)
    clear h1
    go_enter Tryd.func10, Tryd.ntmps10
    go_wp2_with fail
    go_returns
    exact ⟨ret_bool (by rw [HR.out]), h0.bel⟩
end Go.Proofs.YtdkkomcokefkhaaDoor
