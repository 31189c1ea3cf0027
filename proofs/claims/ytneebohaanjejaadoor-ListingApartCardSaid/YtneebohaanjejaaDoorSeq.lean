/- Layer 8's iterator over a text's words, and the library's Collect over it. -/
import Derived.RangeFuncBox
import Derived.RangeFuncLeaves
import Derived.RangeFuncNested
import Derived.Shelf.Abstract
import Derived.Shelf.RegionOpen
import Derived.Sort.QuietIn
import Derived.OwnWalkIn
import Derived.TacticsInMore
import Derived.LoopNIn
import Derived.LoopIn
import Derived.Maps.AppendAt
import Derived.Test.YtneebohaanjejaaDoorInfo
import Derived.Test.YtneebohaanjejaaDoorPb
namespace Go.Proofs.YtneebohaanjejaaDoor
open Go.RowKit Go.Shelf

attribute [local go_sem] Oper.semAt_some

theorem wordsL_part (l : List UInt8) (q : Nat) (h1 : 4 * q ≤ l.length) (h2 : l.length < 4 * q + 4) : wordsL (l.take (4 * q)) = wordsL l := by
  have h3 : l = l.take (4 * q) ++ l.drop (4 * q) := (List.take_append_drop _ _).symm
  have h4 : (l.drop (4 * q)).length < 4 := by rw [List.length_drop]; omega
  have h5 : wordsL (l.drop (4 * q)) = [] := by
    generalize l.drop (4 * q) = r at h4
    match r, h4 with
    | [], _ => rfl
    | [_], _ => rfl
    | [_, _], _ => rfl
    | [_, _, _], _ => rfl
    | _ :: _ :: _ :: _ :: _, h => simp at h; omega
  rw [h3, wordsL_append _ _ q (by rw [List.length_take]; omega), h5, List.append_nil, ← h3]

theorem wordsL_pre (s : ByteArray) {j q : Nat} (hlt : j < q) (hq : 4 * q ≤ s.size) {x : UInt32} (HS : Hid (wordsL (s.data.toList.take (4 * (j + 1))) = wordsL (s.data.toList.take (4 * j)) ++ [x])) (HP : Hid (wordsL (s.data.toList.take (4 * q)) = wordsL s.data.toList)) : wordsL (s.data.toList.take (4 * j)) ++ [x] <+: wordsL s.data.toList := by
  have hl : s.data.toList.length = s.size := rfl
  rw [← HS.out, ← HP.out]
  have e : s.data.toList.take (4 * q) = s.data.toList.take (4 * (j + 1)) ++ (s.data.toList.take (4 * q)).drop (4 * (j + 1)) := by
    have h := (List.take_append_drop (4 * (j + 1)) (s.data.toList.take (4 * q))).symm
    rw [List.take_take, Nat.min_eq_left (by omega)] at h
    exact h
  rw [e, wordsL_append _ _ (j + 1) (by rw [List.length_take]; omega)]
  exact List.prefix_append _ _

/-- What the iterator wants kept across a round: the cell of the text that it has captured. -/
def KeepCell (Bn : Nat) (W W' : World) : Prop := W'.cell? ⟨Bn, 0, none⟩ = W.cell? ⟨Bn, 0, none⟩
theorem keepCell_t {Bn : Nat} {A B C : World} (h : KeepCell Bn A B) (k : KeepCell Bn B C) : KeepCell Bn A C := Eq.trans k h
theorem keepCell_b {Bn : Nat} {w : World} (hn : Bn < w.heap.size) (W : World) (l : Nat) (o o' : Obj) (hl : w.heap.size ≤ l) (_ : W.heap[l]? = some o) (_ : o.isCells = false) (_ : o.isWalk = false) : KeepCell Bn W (W.putObj l o') :=
  World.cell?_of_block (World.putObj_heap_other (by show Bn ≠ l; omega))

end Go.Proofs.YtneebohaanjejaaDoor
