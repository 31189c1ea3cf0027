/- A cell that is known lies in a block that is there. -/
import Derived.Test.YtneebohaanjejaaDoorRd
import Derived.Lib.LaidTab
namespace Go.Proofs.YtneebohaanjejaaDoor
theorem cell_lt {w : World} {a : Addr} {v : Value} (h : w.cell? a = some v) : a.block < w.heap.size := by
  unfold World.cell? at h
  cases hh : w.heap[a.block]? with
  | none => rw [hh] at h; simp at h
  | some o => exact (Array.getElem?_eq_some_iff.1 hh).1
end Go.Proofs.YtneebohaanjejaaDoor
