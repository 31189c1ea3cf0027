/- Layer 1 (word): what the program's functions compute, each walked once. -/
import Derived.Test.YtneebohaanjejaaDoorChecked
import Derived.Test.YtneebohaanjejaaDoorInfo
import Derived.Test.YtneebohaanjejaaDoorPb
namespace Go.Proofs.YtneebohaanjejaaDoor
open Go.RowKit


set_option maxHeartbeats 400000 in
set_option maxRecDepth 10000 in
theorem word_Bytes (xs : List UInt32) (A : Option Addr) (n c : Nat) (w : World) (hxs : Sl w w.heap.size A n (xs.map wv)) (hn : n ≤ 1000000000000) :
    Calls Tryd.prog 33 #[.slice A n c] w fun e w' => (∃ s, e = .returned (.string s) ∧ Hid (s.data.toList = leBytes xs)) ∧ Below w.heap.size w w' := by
  obtain rfl : xs.length = n := by simpa using hxs.1
  go_enter Tryd.func33, Tryd.ntmps33
  go_wp2_with (at_make; refine wpList_make_row _ rfl _ _ 54 rfl w.heap.size 5 (.int .u8 0) 1 1 Tryd.underlying54 info_u8 _ _ _ (4 * xs.length) rfl rfl (by omega) (by omega) (by omega) (Nat.le_refl _) ?_; intro v0 w0 hown0 hb0 hg0 hv0)
  go_loopw [3, 12] (fun v i wr => ∃ k : Nat, k ≤ xs.length ∧ i = .int .i64 k ∧ wr.ownsRow w.heap.size 5 1 v (4 * k) ((leBytes (xs.take k)).map bv) ∧ Below w.heap.size w wr) (fun _ i _ => xs.length - (intOf i).toNat)
  case atStart => exact ⟨0, Nat.zero_le _, rfl, by simpa [leBytes] using hown0, hb0⟩
  case round =>
    obtain ⟨k, hk, rfl, hown, hbel⟩ := hrel
    have hsz := hbel.size
    by_cases hlt : k < xs.length
    · obtain ⟨b, off, rfl, hb, hcell⟩ := (hxs.below hbel).word hlt
      have hx32 := xs[k].toNat_lt
      have H4 := Lib.hid (le4_vals xs[k])
      have HS := Lib.hid (leBytes_snoc xs k hlt)
      go_wp2_with (at_builtin; refine wpList_append_new rfl _ _ 54 rfl w.heap.size (.int .u8 0) 1 1 Tryd.underlying54 info_u8 rfl (by decide) _ (4 * k) _ rfl hown 4 rfl rfl (by simp [Value.oneCell']) (by omega) (by omega) hsz ?_; intro v1 w1 hown1 hb1 _; rw [← H4.out, ← List.map_append, ← HS.out] at hown1)
      go_roundw
      case rel => exact ⟨k + 1, by omega, by go_num, hown1, hbel.trans hb1⟩
      case measure => simp [intOf]; omega
    · obtain rfl : k = xs.length := by omega
      obtain ⟨s, hconv, hS⟩ := string_row _ 54 9 Tryd.underlying54 Tryd.underlying5 Tryd.underlying9 hown
      rw [List.take_length] at hS
      go_wp2_with fail
      go_returns
      exact ⟨⟨s, rfl, hS⟩, hbel⟩
end Go.Proofs.YtneebohaanjejaaDoor
