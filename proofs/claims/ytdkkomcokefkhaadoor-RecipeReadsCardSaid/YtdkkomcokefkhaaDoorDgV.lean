/- Layer 3: the document's Unmix, walked. -/
import Derived.Test.YtdkkomcokefkhaaDoorDgR
import Derived.Test.YtdkkomcokefkhaaDoorDgU
namespace Go.Proofs.YtdkkomcokefkhaaDoor
open Go.RowKit

theorem un_rel2 {w W : World} {G : Nat → UInt32} {m j g : Nat} {t : TypeId} {cs : Array Value} (h : m < 4) (hj : (3 : Int) - m = j) (hm : Mx w (unIns G (m + 1)) W) (hb : Blk W g t cs) : ∃ mm : Nat, mm ≤ 4 ∧ Value.int .i64 ((j : Int) - 1) = .int .i64 (3 - (mm : Int)) ∧ Mx w (unIns G mm) W ∧ Blk W g t cs :=
  ⟨m + 1, h, by congr 1; omega, hm, hb⟩

end Go.Proofs.YtdkkomcokefkhaaDoor
