/- Layer 1 (word): what the program's functions compute, each walked once. -/
/- Layer 1, the document's answer: the bytes of words, walked. -/
import Derived.Test.YthfdjfgmgoafnaaDoorChecked
import Derived.Test.YthfdjfgmgoafnaaDoorHxA
import Derived.Test.YthfdjfgmgoafnaaDoorPb
namespace Go.Proofs.YthfdjfgmgoafnaaDoor
open Go.RowKit


set_option maxHeartbeats 400000 in
set_option maxRecDepth 10000 in
theorem word_Bytes (xs : List UInt32) (A : Option Addr) (n c : Nat) (w : World) (hxs : Sl w w.heap.size A n (xs.map wv)) (hn : n ≤ 1000000000000) :
    Calls Tryd.prog 16 #[.slice A n c] w fun e w' => (∃ s, e = .returned (.string s) ∧ Hid (s.data.toList = leBytes xs)) ∧ Below w.heap.size w w' := by
  obtain rfl : xs.length = n := by simpa using hxs.1
  go_enter Tryd.func16, Tryd.ntmps16
  go_wp2_with (at_make; refine wpList_make_row _ rfl _ _ 38 rfl w.heap.size 5 (.int .u8 0) 1 1 Tryd.underlying38 info_u8 _ _ _ (4 * xs.length) rfl rfl (by omega) (by omega) (by omega) (Nat.le_refl _) ?_; intro v0 w0 hown0 hb0 hg0 hv0)
  go_loopw [3, 12] (fun v i wr => ∃ k : Nat, k ≤ xs.length ∧ i = .int .i64 k ∧ wr.ownsRow w.heap.size 5 1 v (4 * k) ((leBytes (xs.take k)).map bv) ∧ Below w.heap.size w wr) (fun _ i _ => xs.length - (intOf i).toNat)
  case atStart => exact ⟨0, Nat.zero_le _, rfl, by simpa [leBytes] using hown0, hb0⟩
  case round =>
    obtain ⟨k, hk, rfl, hown, hbel⟩ := hrel
    have hsz := hbel.size
    by_cases hlt : k < xs.length
    · obtain ⟨b, off, rfl, hb, hcell⟩ := (hxs.below hbel).word hlt
      have hx32 := xs[k].toNat_lt
      have H4 := Lib.hid (le4_vals xs[k])
      have HS := Lib.hid (leBytes_snoc xs k hlt)
      go_wp2_with (at_builtin; refine wpList_append_new rfl _ _ 38 rfl w.heap.size (.int .u8 0) 1 1 Tryd.underlying38 info_u8 rfl (by decide) _ (4 * k) _ rfl hown 4 rfl rfl (by simp [Value.oneCell']) (by omega) (by omega) hsz ?_; intro v1 w1 hown1 hb1 _; rw [← H4.out, ← List.map_append, ← HS.out] at hown1)
      go_roundw
      case rel => exact ⟨k + 1, by omega, by go_num, hown1, hbel.trans hb1⟩
      case measure => simp [intOf]; omega
    · obtain rfl : k = xs.length := by omega
      obtain ⟨s, hconv, hS⟩ := string_row _ 38 9 Tryd.underlying38 Tryd.underlying5 Tryd.underlying9 hown
      rw [List.take_length] at hS
      go_wp2_with fail
      go_returns
      exact ⟨⟨s, rfl, hS⟩, hbel⟩
end Go.Proofs.YthfdjfgmgoafnaaDoor
namespace Go.Proofs.YthfdjfgmgoafnaaDoor
open Go.RowKit

set_option maxHeartbeats 800000 in
theorem ref_Bytes (xs : List UInt32) (A : Option Addr) (n c : Nat) (w : World) (hxs : Sl w w.heap.size A n (xs.map wv)) (hn : n ≤ 1000000000000) :
    Calls Tryd.prog 24 #[.slice A n c] w fun e w' => (∃ s, e = .returned (.string s) ∧ Hid (s.data.toList = leBytes xs)) ∧ Below w.heap.size w w' := by
  obtain rfl : xs.length = n := by simpa using hxs.1
  go_enter Tryd.func24, Tryd.ntmps24
  go_wp2_with (at_make; refine wpList_make_row _ rfl _ _ 38 rfl w.heap.size 5 (.int .u8 0) 1 1 Tryd.underlying38 info_u8 _ _ _ (4 * xs.length) rfl rfl (by omega) (by omega) (by omega) (Nat.le_refl _) ?_; intro v0 w0 hown0 hb0 hg0 hv0)
  go_loopw [3, 4] (fun v i wr => ∃ k : Nat, k ≤ xs.length ∧ i = .int .i64 k ∧ wr.ownsRow w.heap.size 5 1 v (4 * k) ((leBytes (xs.take k)).map bv) ∧ Below w.heap.size w wr) (fun _ i _ => xs.length - (intOf i).toNat)
  case atStart => exact ⟨0, Nat.zero_le _, rfl, by simpa [leBytes] using hown0, hb0⟩
  case round =>
    obtain ⟨i, hi, rfl, hown, hbel⟩ := hrel
    by_cases hlt : i < xs.length
    · obtain ⟨b, off, rfl, hb, hcell⟩ := (hxs.below hbel).word hlt
      have HS := Lib.hid (leBytes_snoc xs i hlt)
      obtain ⟨x, hx⟩ : ∃ x, xs[i] = x := ⟨_, rfl⟩
      rw [hx] at HS hcell
      clear hx
      have hx32 := x.toNat_lt
      obtain ⟨wo, rfl⟩ : ∃ wo : World, wo = wr := ⟨_, rfl⟩
      go_wp2
      go_loopw [3, 5, 6] (fun v m k wr => ∃ j q : Nat, j ≤ 4 ∧ k = .int .i64 j ∧ m = .int .u32 q ∧ q < 4294967296 ∧ Hid (q = x.toNat / 256 ^ j) ∧ wr.ownsRow w.heap.size 5 1 v (4 * i + j) ((leBytes (xs.take i) ++ (le4 x).take j).map bv) ∧ Below w.heap.size w wr) (fun _ _ k _ => 4 - (intOf k).toNat)
      case atStart => exact ⟨0, x.toNat, by omega, rfl, rfl, hx32, by unfold Hid; omega, by simpa using hown, hbel⟩
      case round =>
        clear hown hbel
        obtain ⟨j, q, hj, rfl, rfl, hq, hQ, hown, hbel⟩ := hrel
        have hsz := hbel.size
        by_cases hj4 : j < 4
        · have HB : Hid (Value.int .u8 ((q : Int) % 256) = bv (UInt8.ofNat (x.toNat / 256 ^ j % 256))) := by unfold Hid; rw [bv_ofNat, hQ.out]
          have HG := Lib.hid (le4_get x j hj4)
          go_wp2_with (at_builtin; refine wpList_append_new rfl _ _ 38 rfl w.heap.size (.int .u8 0) 1 1 Tryd.underlying38 info_u8 rfl (by decide) _ (4 * i + j) _ rfl hown 1 rfl rfl (by simp [Value.oneCell']) (by omega) (by omega) hsz ?_; intro v1 w1 hown1 hb1 _)
          go_roundw
          case rel =>
            refine ⟨j + 1, q / 256, by omega, by go_num, by go_num, by omega, ?_, ?_, hbel.trans hb1⟩
            · unfold Hid; rw [hQ.out, Nat.pow_succ, Nat.div_div_eq_div_mul]
            · rw [HB.out] at hown1
              rw [HG.out, ← List.append_assoc, List.map_append]
              exact hown1
          case measure => simp [intOf]; omega
        · obtain rfl : j = 4 := by omega
          go_wp2
          go_roundw
          case rel => exact ⟨i + 1, by omega, by go_num, by rw [HS.out]; exact hown, hbel⟩
          case measure => simp [intOf]; omega
    · obtain rfl : i = xs.length := by omega
      obtain ⟨s, hconv, hS⟩ := string_row _ 38 9 Tryd.underlying38 Tryd.underlying5 Tryd.underlying9 hown
      rw [List.take_length] at hS
      go_wp2_with fail
      go_returns
      exact ⟨⟨s, rfl, hS⟩, hbel⟩
end Go.Proofs.YthfdjfgmgoafnaaDoor
