/- Layer 3: two digests in a law's first boxes. -/
import Derived.Test.YtbhibkhmjdleoaaDoorDgP
namespace Go.Proofs.YtbhibkhmjdleoaaDoor
open Go.RowKit

/-- Two digests in the boxes that the law makes first; the tables as they were laid. -/
structure Pl (w : World) (a b : Nat → UInt32) (W : World) : Prop where
  x : Blk W w.heap.size 29 (dgv a)
  y : Blk W (w.heap.size + 1) 29 (dgv b)
  sm : Small W
  pl : Places W
  bel : Below w.heap.size w W
section
variable {w W W' : World} {a b : Nat → UInt32}
theorem Pl.new (w : World) (a b : Nat → UInt32) (hT : Small w) (hP : Places w) : Pl w a b ((w.alloc (.cells (dgv a) 29)).alloc (.cells (dgv b) 29)) :=
  have c := ((Below.refl _ w).alloc (Nat.le_refl _) (.cells (dgv a) 29)).alloc (by simp) (.cells (dgv b) 29)
  ⟨(Blk.new w _ _).alloc _, by have h := Blk.new (w.alloc (.cells (dgv a) 29)) 29 (dgv b); simpa using h, hT.below c hT.1, hP.below c hP.1, c⟩
theorem Pl.below (h : Pl w a b W) (hb : Below W.heap.size W W') : Pl w a b W' := ⟨h.x.below hb h.x.lt, h.y.below hb h.y.lt, h.sm.below hb h.sm.1, h.pl.below hb h.pl.1, h.bel.trans (hb.mono h.bel.size)⟩
theorem Pl.drew (h : Pl w a b W) : Pl w a b W.drew := h.below (Below.refl _ W).drew
theorem Pl.all (h : Pl w a b W) : (W.cell? ⟨w.heap.size, 0, none⟩ = some (.int .u32 (a 0).toNat) ∧ W.cell? ⟨w.heap.size, 1, none⟩ = some (.int .u32 (a 1).toNat) ∧ W.cell? ⟨w.heap.size, 2, none⟩ = some (.int .u32 (a 2).toNat) ∧ W.cell? ⟨w.heap.size, 3, none⟩ = some (.int .u32 (a 3).toNat)) ∧ (W.cell? ⟨w.heap.size + 1, 0, none⟩ = some (.int .u32 (b 0).toNat) ∧ W.cell? ⟨w.heap.size + 1, 1, none⟩ = some (.int .u32 (b 1).toNat) ∧ W.cell? ⟨w.heap.size + 1, 2, none⟩ = some (.int .u32 (b 2).toNat) ∧ W.cell? ⟨w.heap.size + 1, 3, none⟩ = some (.int .u32 (b 3).toNat)) ∧ Pl w a b W :=
  ⟨⟨(h.x.cell 0).trans (dgv_get a 0 (by decide)), (h.x.cell 1).trans (dgv_get a 1 (by decide)), (h.x.cell 2).trans (dgv_get a 2 (by decide)), (h.x.cell 3).trans (dgv_get a 3 (by decide))⟩, ⟨(h.y.cell 0).trans (dgv_get b 0 (by decide)), (h.y.cell 1).trans (dgv_get b 1 (by decide)), (h.y.cell 2).trans (dgv_get b 2 (by decide)), (h.y.cell 3).trans (dgv_get b 3 (by decide))⟩, h⟩
end
theorem Pl.alloc {w W : World} {a b : Nat → UInt32} (h : Pl w a b W) (o : Obj) : Pl w a b (W.alloc o) := h.below ((Below.refl _ W).alloc (Nat.le_refl _) o)
end Go.Proofs.YtbhibkhmjdleoaaDoor
