/- Layer 8's iterator over a text's words, and the library's Collect over it. -/
/- The library's Collect over layer 8's iterator. -/
import Derived.RangeFuncBox
import Derived.RangeFuncLeaves
import Derived.RangeFuncNested
import Derived.Shelf.Abstract
import Derived.Shelf.RegionOpen
import Derived.Sort.QuietIn
import Derived.OwnWalkIn
import Derived.TacticsInMore
import Derived.LoopNIn
import Derived.LoopIn
import Derived.Maps.AppendAt
import Derived.Test.YtknonabeagbjeaaGreatDoorInfo
import Derived.Test.YtknonabeagbjeaaGreatDoorPb
namespace Go.Proofs.YtknonabeagbjeaaGreatDoor
open Go.RowKit Go.Shelf

attribute [local go_sem] Oper.semAt_some

theorem wordsL_part (l : List UInt8) (q : Nat) (h1 : 4 * q ≤ l.length) (h2 : l.length < 4 * q + 4) : wordsL (l.take (4 * q)) = wordsL l := by
  have h3 : l = l.take (4 * q) ++ l.drop (4 * q) := (List.take_append_drop _ _).symm
  have h4 : (l.drop (4 * q)).length < 4 := by rw [List.length_drop]; omega
  have h5 : wordsL (l.drop (4 * q)) = [] := by
    generalize l.drop (4 * q) = r at h4
    match r, h4 with
    | [], _ => rfl
    | [_], _ => rfl
    | [_, _], _ => rfl
    | [_, _, _], _ => rfl
    | _ :: _ :: _ :: _ :: _, h => simp at h; omega
  rw [h3, wordsL_append _ _ q (by rw [List.length_take]; omega), h5, List.append_nil, ← h3]

theorem wordsL_pre (s : ByteArray) {j q : Nat} (hlt : j < q) (hq : 4 * q ≤ s.size) {x : UInt32} (HS : Hid (wordsL (s.data.toList.take (4 * (j + 1))) = wordsL (s.data.toList.take (4 * j)) ++ [x])) (HP : Hid (wordsL (s.data.toList.take (4 * q)) = wordsL s.data.toList)) : wordsL (s.data.toList.take (4 * j)) ++ [x] <+: wordsL s.data.toList := by
  have hl : s.data.toList.length = s.size := rfl
  rw [← HS.out, ← HP.out]
  have e : s.data.toList.take (4 * q) = s.data.toList.take (4 * (j + 1)) ++ (s.data.toList.take (4 * q)).drop (4 * (j + 1)) := by
    have h := (List.take_append_drop (4 * (j + 1)) (s.data.toList.take (4 * q))).symm
    rw [List.take_take, Nat.min_eq_left (by omega)] at h
    exact h
  rw [e, wordsL_append _ _ (j + 1) (by rw [List.length_take]; omega)]
  exact List.prefix_append _ _

/-- What the iterator wants kept across a round: the cell of the text that it has captured. -/
def KeepCell (Bn : Nat) (W W' : World) : Prop := W'.cell? ⟨Bn, 0, none⟩ = W.cell? ⟨Bn, 0, none⟩
theorem keepCell_t {Bn : Nat} {A B C : World} (h : KeepCell Bn A B) (k : KeepCell Bn B C) : KeepCell Bn A C := Eq.trans k h
theorem keepCell_b {Bn : Nat} {w : World} (hn : Bn < w.heap.size) (W : World) (l : Nat) (o o' : Obj) (hl : w.heap.size ≤ l) (_ : W.heap[l]? = some o) (_ : o.isCells = false) (_ : o.isWalk = false) : KeepCell Bn W (W.putObj l o') :=
  World.cell?_of_block (World.putObj_heap_other (by show Bn ≠ l; omega))

end Go.Proofs.YtknonabeagbjeaaGreatDoor
namespace Go.Proofs.YtknonabeagbjeaaGreatDoor
open Go.RowKit Go.Shelf

attribute [local go_sem] Oper.semAt_some

/-- The law of a range over a function, the frame of a round named by what it writes into the temporaries as they stand. -/
theorem rangeFunc_T {F : Fence} {n : Nat} {P : Program} {α : Type} {g : Operand} {ps : Array Tmp} {assign body : Code} {Q : Exit → Act → World → Prop} {a : Act} {w : World} (T : Array Value → α → Array Value)
    (hro : F.round = none) (h1 : 1 ≤ n) {gf : Nat} {lb : Array Value} (hg : a.eval g = .func (.func gf) #[] lb) (hFg : F.fn gf) (eg : ∀ args w, (callFunc gf args).run P w = .ok (.enter gf args) w)
    {encs : α → Array Value} {Kp : World → World → Prop} {S Sp : List α → Prop} {N : Nat} {w0 : World} (hseq : SeqStopsK F (n - 1) P gf lb encs Kp S Sp N w0)
    (hKt : ∀ {A B C : World}, Kp A B → Kp B C → Kp A C) (hKb : ∀ (W : World) (l : Nat) (o o' : Obj), w.heap.size ≤ l → W.heap[l]? = some o → o.isCells = false → o.isWalk = false → Kp W (W.putObj l o')) (hb0 : Below w0.heap.size w0 w) (hps : ∀ x, (encs x).size = ps.size)
    (I : List α → World → Prop) (Ix : Code → List α → World → Prop) (hI : OwnFrom w.heap.size I) (hIx : ∀ c, OwnFrom w.heap.size (Ix c)) (h0 : I [] w)
    (hassign : ∀ (l : Nat) (x : α) (W : World) (K : Act → World → Prop), K ⟨T a.tmps x, []⟩ W →
      assign.wpIn (F.inRound l) (n - 1 - 1) P (Exit.then K (fun _ _ _ => False)) { tmps := (ps.zip (encs x)).foldl (fun t (p, v) => t.setIfInBounds p v) a.tmps, defers := [] } W)
    (hbody : ∀ (l : Nat) (pre : List α) (x : α) (W : World), I pre W → pre.length < N → body.wpIn (F.inRound l) (n - 1 - 1) P (ownPostG w.heap.size Kp I Ix (pre ++ [x]) W) ⟨T a.tmps x, []⟩ W)
    (hdone : ∀ (D : Nat) (xs : List α) (W : World), w.heap.size ≤ D → S xs → I xs W → W.heap[D]? = some (.deferred (some [])) → Q .normal { a with defers := { target := .collected D, args := #[] } :: a.defers } W)
    (hstop : ∀ (D : Nat) (c : Code) (pre : List α) (W : World), w.heap.size ≤ D → Sp pre → Ix c pre W → W.heap[D]? = some (.deferred (some [])) → c.wpIn F n P Q { a with defers := { target := .collected D, args := #[] } :: a.defers } W) :
    (Code.rangeFunc g ps assign body).wpIn F n P Q a w :=
  wpIn_rangeFunc_ownG hro h1 hg hFg eg hseq hKt hKb hb0 hps I Ix hI hIx h0 (fun x => ⟨T a.tmps x, []⟩) hassign hbody hdone hstop

end Go.Proofs.YtknonabeagbjeaaGreatDoor
