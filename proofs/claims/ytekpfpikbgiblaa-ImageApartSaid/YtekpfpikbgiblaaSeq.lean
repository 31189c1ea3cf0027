/- Layer 8's iterator over a text's words, and the library's Collect over it. -/
import Derived.RangeFuncBox
import Derived.RangeFuncLeaves
import Derived.RangeFuncNested
import Derived.Shelf.Abstract
import Derived.Shelf.RegionOpen
import Derived.Sort.QuietIn
import Derived.OwnWalkIn
import Derived.TacticsInMore
import Derived.LoopNIn
import Derived.LoopIn
import Derived.Maps.AppendAt
import Derived.Test.YtekpfpikbgiblaaInfo
import Derived.Test.YtekpfpikbgiblaaPb
namespace Go.Proofs.Ytekpfpikbgiblaa
open Go.RowKit Go.Shelf

attribute [local go_sem] Oper.semAt_some

set_option maxHeartbeats 400000 in
theorem image_words (n : Nat) (s : ByteArray) (w : World) :
    CallsIn Fence.wide n Try.prog 14 #[.string s] w fun e w' => e = .returned (.func (.func 16) #[] #[.pointer (some ⟨w.heap.size, 0, none⟩)]) ∧ w' = w.alloc (.cells #[.string s] 9) := by
  refine callsIn_of_wp Try.func14 rfl trivial ?_ rfl
  simp only [Try.ntmps14, List.size_toArray, List.length_cons, List.length_nil, Nat.reduceAdd, Nat.reduceSub, Array.replicate_succ, Array.replicate_zero, List.push_toArray, List.append_toArray, List.nil_append, List.cons_append]
  gi_wp2
  go_ret
  exact ⟨rfl, rfl⟩

theorem wordsL_part (l : List UInt8) (q : Nat) (h1 : 4 * q ≤ l.length) (h2 : l.length < 4 * q + 4) : wordsL (l.take (4 * q)) = wordsL l := by
  have h3 : l = l.take (4 * q) ++ l.drop (4 * q) := (List.take_append_drop _ _).symm
  have h4 : (l.drop (4 * q)).length < 4 := by rw [List.length_drop]; omega
  have h5 : wordsL (l.drop (4 * q)) = [] := by
    generalize l.drop (4 * q) = r at h4
    match r, h4 with
    | [], _ => rfl
    | [_], _ => rfl
    | [_, _], _ => rfl
    | [_, _, _], _ => rfl
    | _ :: _ :: _ :: _ :: _, h => simp at h; omega
  rw [h3, wordsL_append _ _ q (by rw [List.length_take]; omega), h5, List.append_nil, ← h3]

theorem wordsL_pre (s : ByteArray) {j q : Nat} (hlt : j < q) (hq : 4 * q ≤ s.size) {x : UInt32} (HS : Hid (wordsL (s.data.toList.take (4 * (j + 1))) = wordsL (s.data.toList.take (4 * j)) ++ [x])) (HP : Hid (wordsL (s.data.toList.take (4 * q)) = wordsL s.data.toList)) : wordsL (s.data.toList.take (4 * j)) ++ [x] <+: wordsL s.data.toList := by
  have hl : s.data.toList.length = s.size := rfl
  rw [← HS.out, ← HP.out]
  have e : s.data.toList.take (4 * q) = s.data.toList.take (4 * (j + 1)) ++ (s.data.toList.take (4 * q)).drop (4 * (j + 1)) := by
    have h := (List.take_append_drop (4 * (j + 1)) (s.data.toList.take (4 * q))).symm
    rw [List.take_take, Nat.min_eq_left (by omega)] at h
    exact h
  rw [e, wordsL_append _ _ (j + 1) (by rw [List.length_take]; omega)]
  exact List.prefix_append _ _

/-- What the iterator wants kept across a round: the cell of the text that it has captured. -/
def KeepCell (Bn : Nat) (W W' : World) : Prop := W'.cell? ⟨Bn, 0, none⟩ = W.cell? ⟨Bn, 0, none⟩
theorem keepCell_t {Bn : Nat} {A B C : World} (h : KeepCell Bn A B) (k : KeepCell Bn B C) : KeepCell Bn A C := Eq.trans k h
theorem keepCell_b {Bn : Nat} {w : World} (hn : Bn < w.heap.size) (W : World) (l : Nat) (o o' : Obj) (hl : w.heap.size ≤ l) (_ : W.heap[l]? = some o) (_ : o.isCells = false) (_ : o.isWalk = false) : KeepCell Bn W (W.putObj l o') :=
  World.cell?_of_block (World.putObj_heap_other (by show Bn ≠ l; omega))

set_option maxRecDepth 100000 in
set_option maxHeartbeats 1000000 in
theorem words1_in (n : Nat) (hn : 1 ≤ n) (l Bn : Nat) (s : ByteArray) (hs : s.size ≤ 1000000000000) (B0 : Nat) (J Jx : List UInt32 → World → Prop) (hJa : AbidesFrom B0 J)
    (hY : ∀ pre x W, J pre W → pre.length < s.size / 4 → YieldAt Fence.wide (n - 1) Try.prog l #[.int .u32 x.toNat] W fun e W' =>
      (e = .returned (.bool true) ∧ J (pre ++ [x]) W' ∧ KeepCell Bn W W') ∨ (e = .returned (.bool false) ∧ Jx (pre ++ [x]) W'))
    (W : World) (hBn : W.cell? ⟨Bn, 0, none⟩ = some (.string s)) (h0 : J [] W) :
    CallsIn Fence.wide n Try.prog 16 #[.func (.yield l) #[] #[], .pointer (some ⟨Bn, 0, none⟩)] W fun e W' => (∃ v, e = .returned v) ∧
      ((∃ ys, ys = wordsL s.data.toList ∧ J ys W') ∨ (∃ pre, pre <+: wordsL s.data.toList ∧ Jx pre W')) := by
  obtain ⟨q, hq1, hq2⟩ : ∃ q, 4 * q ≤ s.size ∧ s.size < 4 * q + 4 := ⟨s.size / 4, by omega, by omega⟩
  have hqd : s.size / 4 = q := by omega
  have hP := wordsL_part s.data.toList q hq1 hq2
  have hLen : (wordsL (s.data.toList.take (4 * q))).length = q := wordsL_length _ q (by rw [List.length_take]; exact Nat.min_eq_left hq1)
  rw [hqd] at hY
  have HP := Lib.hid hP
  have HLen := Lib.hid hLen
  clear hqd hP hLen
  refine callsIn_of_wp Try.func16 rfl trivial ?_ rfl
  simp only [Try.ntmps16, List.size_toArray, List.length_cons, List.length_nil, Nat.reduceAdd, Nat.reduceSub, Array.replicate_succ, Array.replicate_zero, List.push_toArray, List.append_toArray, List.nil_append, List.cons_append]
  gi_wp2
  gi_loopw [3] (fun i wr => ∃ j : Nat, j ≤ q ∧ i = .int .i64 (4 * (j : Int)) ∧ wr.cell? ⟨Bn, 0, none⟩ = some (.string s) ∧ J (wordsL (s.data.toList.take (4 * j))) wr) (fun i _ => s.size + 4 - (intOf i).toNat)
  case atStart => exact ⟨0, Nat.zero_le _, rfl, hBn, h0⟩
  case round =>
    obtain ⟨j, hj, rfl, hc, hJ⟩ := hrel
    by_cases hlt : j < q
    · have i0 : 4 * j < s.size := by omega
      have i1 : 4 * j + 1 < s.size := by omega
      have i2 : 4 * j + 2 < s.size := by omega
      have i3 : 4 * j + 3 < s.size := by omega
      have HS : Hid (wordsL (s.data.toList.take (4 * (j + 1))) = wordsL (s.data.toList.take (4 * j)) ++ [word4 (s[4 * j]'i0) (s[4 * j + 1]'i1) (s[4 * j + 2]'i2) (s[4 * j + 3]'i3)]) := wordsL_step s.data.toList j (by show _ ≤ s.size; omega)
      have hlj : (wordsL (s.data.toList.take (4 * j))).length = j := wordsL_length _ j (by rw [List.length_take]; exact Nat.min_eq_left (by show _ ≤ s.size; omega))
      have j0 : 4 * (j : Int) < s.size := by omega
      have j1 : 4 * (j : Int) + 1 < s.size := by omega
      have j2 : 4 * (j : Int) + 2 < s.size := by omega
      have j3 : 4 * (j : Int) + 3 < s.size := by omega
      have j4 : 4 * (j : Int) + 4 ≤ s.size := by omega
      have p0 : 0 ≤ 4 * (j : Int) := by omega
      have p1 : 0 ≤ 4 * (j : Int) + 1 := by omega
      have p2 : 0 ≤ 4 * (j : Int) + 2 := by omega
      have p3 : 0 ≤ 4 * (j : Int) + 3 := by omega
      have ht : (4 * (j : Int)).toNat = 4 * j := by omega
      have ht1 : (4 * (j : Int) + 1).toNat = 4 * j + 1 := by omega
      have ht2 : (4 * (j : Int) + 2).toNat = 4 * j + 2 := by omega
      have ht3 : (4 * (j : Int) + 3).toNat = 4 * j + 3 := by omega
      have HY := Lib.hid hY
      have HJ := Lib.hid hJ
      have HA := Lib.hid hJa
      clear hY hJ h0 hJa
      gi_wp2
      gi_quiet (fail)
      have hJd : J (wordsL (s.data.toList.take (4 * j))) (wr.drewN nq) := HA.out _ _ _ none HJ.out ⟨rfl, rfl, rfl, Nat.le_refl _, fun _ _ _ => rfl⟩ (fun r e => by cases e)
      obtain ⟨fn, tmps, assign, body, hy, hRd⟩ := HY.out _ (word4 (s[4 * j]'i0) (s[4 * j + 1]'i1) (s[4 * j + 2]'i2) (s[4 * j + 3]'i3)) (wr.drewN nq) hJd (by rw [hlj]; exact hlt)
      clear hJd
      gi_wp2
      refine hRd.mono ?_
      rintro e W3 (⟨rfl, hJ3, hk3⟩ | ⟨rfl, hJx3⟩)
      · have hc3 : W3.cell? ⟨Bn, 0, none⟩ = some (.string s) := hk3.trans hc
        have HJ3 := Lib.hid hJ3
        clear hJ3
        gi_wp2
        go_roundw
        case rel => exact ⟨j + 1, by omega, by go_num, hc3, by rw [HS.out]; exact HJ3.out⟩
        case measure => simp [intOf]; omega
      · have HJx3 := Lib.hid hJx3
        clear hJx3
        gi_wp2
        refine bodyPost_ret (results_none rfl _ _ _) rfl ?_
        exact ⟨⟨_, rfl⟩, .inr ⟨_, wordsL_pre s hlt hq1 HS HP, HJx3.out⟩⟩
    · obtain rfl : j = q := by omega
      have HJ := Lib.hid hJ
      have hne : ¬ 4 * (j : Int) + 4 ≤ s.size := by omega
      clear hY hJ h0 hJa
      gi_wp2
      go_end0
      exact ⟨⟨_, rfl⟩, .inl (by rw [← HP.out]; exact HJ.out)⟩

theorem words_stops (n : Nat) (hn : 1 ≤ n) (Bn : Nat) (s : ByteArray) (hs : s.size ≤ 1000000000000) (w : World) (hBw : Bn < w.heap.size) (hc : w.cell? ⟨Bn, 0, none⟩ = some (.string s)) :
    SeqStopsK Fence.wide n Try.prog 16 #[.pointer (some ⟨Bn, 0, none⟩)] (fun x : UInt32 => #[Value.int .u32 x.toNat]) (KeepCell Bn) (fun ys => ys = wordsL s.data.toList) (fun pre => pre <+: wordsL s.data.toList) (s.size / 4) w := fun l J Jx W hW hJ _ hY h0 =>
  words1_in n hn l Bn s hs W.heap.size J Jx hJ hY W ((hW.cell (p := ⟨Bn, 0, none⟩) hBw).trans hc) h0
end Go.Proofs.Ytekpfpikbgiblaa
