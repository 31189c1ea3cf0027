/- Layer 1: words of bytes, walked: the program's and the document's. -/
/- Layer 1, the document's answer: bytes of words, words of bytes, alike; walked. -/
import Derived.Test.YtdkkomcokefkhaaDoorInfo
import Derived.Test.YtdkkomcokefkhaaDoorPb
namespace Go.Proofs.YtdkkomcokefkhaaDoor
open Go.RowKit

set_option maxHeartbeats 400000 in
theorem word_Words (s : ByteArray) (w : World) (hs : s.size ≤ 1000000000000) (h4 : s.size % 4 = 0) :
    Calls Tryd.prog 29 #[.string s] w fun e w' => (∃ v, e = .returned (.tuple #[v, .int .i64 0]) ∧ w'.ownsRow w.heap.size 22 1 v (wordsL s.data.toList).length ((wordsL s.data.toList).map wv)) ∧ Below w.heap.size w w' := by
  obtain ⟨n, hn⟩ : ∃ n, s.size = 4 * n := ⟨s.size / 4, by omega⟩
  have hl : s.data.toList.length = 4 * n := by rw [← hn]; rfl
  have hW := wordsL_length s.data.toList n hl
  have hmod : (s.size : Int) % 4 = 0 := by omega
  have hdiv : (s.size : Int) / 4 = n := by omega
  have HN := Lib.hid hn
  have hn1 : n ≤ 250000000000 := by omega
  have hn2 : 4 * n ≤ s.size := by omega
  clear hn h4
  go_enter Tryd.func29, Tryd.ntmps29
  go_wp2_with (at_make; refine wpList_make_row _ rfl _ _ 46 rfl w.heap.size 22 (.int .u32 0) 1 4 Tryd.underlying46 info_u32 _ _ _ n rfl rfl (by omega) (by omega) (by omega) (Nat.le_refl _) ?_; intro v0 w0 hown0 hb0 hg0 hv0)
  go_loopw [4, 5] (fun v i wr => ∃ j : Nat, j ≤ n ∧ i = .int .i64 (4 * (j : Int)) ∧ wr.ownsRow w.heap.size 22 1 v j ((wordsL (s.data.toList.take (4 * j))).map wv) ∧ Below w.heap.size w wr) (fun _ i _ => s.size - (intOf i).toNat)
  case atStart => exact ⟨0, Nat.zero_le _, rfl, hown0, hb0⟩
  case round =>
    obtain ⟨j, hj, rfl, hown, hbel⟩ := hrel
    have hsz := hbel.size
    by_cases hlt : j < n
    · have HS := Lib.hid (wordsL_step s.data.toList j (by omega))
      have i0 : 4 * j < s.size := by omega
      have i1 : 4 * j + 1 < s.size := by omega
      have i2 : 4 * j + 2 < s.size := by omega
      have i3 : 4 * j + 3 < s.size := by omega
      have j0 : 4 * (j : Int) < s.size := by omega
      have j1 : 4 * (j : Int) + 1 < s.size := by omega
      have j2 : 4 * (j : Int) + 2 < s.size := by omega
      have j3 : 4 * (j : Int) + 3 < s.size := by omega
      have p0 : 0 ≤ 4 * (j : Int) := by omega
      have p1 : 0 ≤ 4 * (j : Int) + 1 := by omega
      have p2 : 0 ≤ 4 * (j : Int) + 2 := by omega
      have p3 : 0 ≤ 4 * (j : Int) + 3 := by omega
      have ht : (4 * (j : Int)).toNat = 4 * j := by omega
      have ht1 : (4 * (j : Int) + 1).toNat = 4 * j + 1 := by omega
      have ht2 : (4 * (j : Int) + 2).toNat = 4 * j + 2 := by omega
      have ht3 : (4 * (j : Int) + 3).toNat = 4 * j + 3 := by omega
      go_wp2_with fail
      go_quiet (fail)
      go_wp2_with (at_builtin; refine wpList_append_new rfl _ _ 46 rfl w.heap.size (.int .u32 0) 1 4 Tryd.underlying46 info_u32 rfl (by decide) _ j _ rfl hown 1 rfl rfl (by simp [Value.oneCell']) (by omega) (by omega) hsz ?_; intro v1 w1 hown1 hb1 _)
      go_roundw
      case rel => exact ⟨j + 1, by omega, by go_num, by rw [HS.out, List.map_append]; exact hown1, (below_drewN hbel _).trans hb1⟩
      case measure => simp [intOf]; omega
    · obtain rfl : j = n := by omega
      rw [show 4 * j = s.data.toList.length from hl.symm, List.take_length, ← hW] at hown
      have hlt' : ¬ 4 * (j : Int) < s.size := by have := HN.out; omega
      clear hW hl
      go_wp2
      go_returns
      exact ⟨⟨_, rfl, hown⟩, hbel⟩
end Go.Proofs.YtdkkomcokefkhaaDoor
namespace Go.Proofs.YtdkkomcokefkhaaDoor
open Go.RowKit

theorem word_Words_bad (s : ByteArray) (w : World) (hs : s.size ≤ 1000000000000) (h4 : s.size % 4 ≠ 0) :
    Calls Tryd.prog 29 #[.string s] w fun e w' => e = .returned (.tuple #[.slice none 0 0, .int .i64 7]) ∧ w = w' := by
  have hm : ((s.size : Int) % 4 != 0) = true := by rw [bne_iff_ne]; omega
  go_enter Tryd.func29, Tryd.ntmps29
  go_wp2
  go_returns
  exact ⟨rfl, rfl⟩
theorem ref_Words_bad (s : ByteArray) (w : World) (hs : s.size ≤ 1000000000000) (h4 : s.size % 4 ≠ 0) :
    Calls Tryd.prog 32 #[.string s] w fun e w' => e = .returned (.tuple #[.slice none 0 0, .int .i64 7]) ∧ w = w' := by
  have hm : ((s.size : Int) % 4 != 0) = true := by rw [bne_iff_ne]; omega
  go_enter Tryd.func32, Tryd.ntmps32
  go_wp2
  go_returns
  exact ⟨rfl, rfl⟩

set_option maxHeartbeats 400000 in
theorem ref_Words (s : ByteArray) (w : World) (hs : s.size ≤ 1000000000000) (h4 : s.size % 4 = 0) :
    Calls Tryd.prog 32 #[.string s] w fun e w' => (∃ v, e = .returned (.tuple #[v, .int .i64 0]) ∧ w'.ownsRow w.heap.size 22 1 v (wordsL s.data.toList).length ((wordsL s.data.toList).map wv)) ∧ Below w.heap.size w w' := by
  obtain ⟨n, hn⟩ : ∃ n, s.size = 4 * n := ⟨s.size / 4, by omega⟩
  have hl : s.data.toList.length = 4 * n := by rw [← hn]; rfl
  have hW := wordsL_length s.data.toList n hl
  have hmod : (s.size : Int) % 4 = 0 := by omega
  have hdiv : (s.size : Int) / 4 = n := by omega
  have HN := Lib.hid hn
  have hn1 : n ≤ 250000000000 := by omega
  have hn2 : 4 * n ≤ s.size := by omega
  clear hn h4
  go_enter Tryd.func32, Tryd.ntmps32
  go_wp2_with (at_make; refine wpList_make_row _ rfl _ _ 46 rfl w.heap.size 22 (.int .u32 0) 1 4 Tryd.underlying46 info_u32 _ _ _ n rfl rfl (by omega) (by omega) (by omega) (Nat.le_refl _) ?_; intro v0 w0 hown0 hb0 hg0 hv0)
  go_loopw [4, 5] (fun v i wr => ∃ j : Nat, j ≤ n ∧ i = .int .i64 (4 * (j : Int)) ∧ wr.ownsRow w.heap.size 22 1 v j ((wordsL (s.data.toList.take (4 * j))).map wv) ∧ Below w.heap.size w wr) (fun _ i _ => s.size - (intOf i).toNat)
  case atStart => exact ⟨0, Nat.zero_le _, rfl, hown0, hb0⟩
  case round =>
    obtain ⟨j, hj, rfl, hown, hbel⟩ := hrel
    have hsz := hbel.size
    by_cases hlt : j < n
    · have HS := Lib.hid (wordsL_step s.data.toList j (by omega))
      have i0 : 4 * j < s.size := by omega
      have i1 : 4 * j + 1 < s.size := by omega
      have i2 : 4 * j + 2 < s.size := by omega
      have i3 : 4 * j + 3 < s.size := by omega
      have j0 : 4 * (j : Int) < s.size := by omega
      have j1 : 4 * (j : Int) + 1 < s.size := by omega
      have j2 : 4 * (j : Int) + 2 < s.size := by omega
      have j3 : 4 * (j : Int) + 3 < s.size := by omega
      have p0 : 0 ≤ 4 * (j : Int) := by omega
      have p1 : 0 ≤ 4 * (j : Int) + 1 := by omega
      have p2 : 0 ≤ 4 * (j : Int) + 2 := by omega
      have p3 : 0 ≤ 4 * (j : Int) + 3 := by omega
      have ht : (4 * (j : Int)).toNat = 4 * j := by omega
      have ht1 : (4 * (j : Int) + 1).toNat = 4 * j + 1 := by omega
      have ht2 : (4 * (j : Int) + 2).toNat = 4 * j + 2 := by omega
      have ht3 : (4 * (j : Int) + 3).toNat = 4 * j + 3 := by omega
      go_wp2_with fail
      refine wp_loop_rounds 5 ?_
      iterate 5 (rw [rounds_succ]; go_wp2_with (at_builtin; refine wpList_append_new rfl _ _ 46 rfl w.heap.size (.int .u32 0) 1 4 Tryd.underlying46 info_u32 rfl (by decide) _ j _ rfl hown 1 rfl rfl (by simp [Value.oneCell']) (by omega) (by omega) hsz ?_; intro v1 w1 hown1 hb1 _))
      go_roundw
      case rel => exact ⟨j + 1, by omega, by go_num, by rw [HS.out, List.map_append]; exact hown1, hbel.trans hb1⟩
      case measure => simp [intOf]; omega
    · obtain rfl : j = n := by omega
      rw [show 4 * j = s.data.toList.length from hl.symm, List.take_length, ← hW] at hown
      have hlt' : ¬ 4 * (j : Int) < s.size := by have := HN.out; omega
      clear hW hl
      go_wp2
      go_returns
      exact ⟨⟨_, rfl, hown⟩, hbel⟩

end Go.Proofs.YtdkkomcokefkhaaDoor
