/- Layer 1 (word): what the program's functions compute, each walked once. -/
import Derived.Test.YtflcaokjcgadgaaChecked
import Derived.Test.YtflcaokjcgadgaaInfo
namespace Go.Proofs.Ytflcaokjcgadgaa
open Go.RowKit


/-- The four bytes of a word, the lowest first. -/
def le4 (x : UInt32) : List UInt8 := [x.toUInt8, (x >>> 8).toUInt8, (x >>> 16).toUInt8, (x >>> 24).toUInt8]
def leBytes (l : List UInt32) : List UInt8 := l.flatMap le4

theorem leBytes_length (l : List UInt32) : (leBytes l).length = 4 * l.length := by
  induction l with
  | nil => rfl
  | cons x l ih =>
    show (le4 x ++ leBytes l).length = _
    rw [List.length_append, ih, show (le4 x).length = 4 from rfl, List.length_cons]
    omega

theorem leBytes_snoc (l : List UInt32) (k : Nat) (h : k < l.length) : leBytes (l.take (k + 1)) = leBytes (l.take k) ++ le4 l[k] := by
  unfold leBytes
  rw [List.take_succ_eq_append_getElem h, List.flatMap_append]
  simp

theorem shr8 (x : UInt32) : (x >>> 8).toNat = x.toNat / 256 := by rw [UInt32.toNat_shiftRight]; exact Nat.shiftRight_eq_div_pow _ _
theorem shr16 (x : UInt32) : (x >>> 16).toNat = x.toNat / 65536 := by rw [UInt32.toNat_shiftRight]; exact Nat.shiftRight_eq_div_pow _ _
theorem shr24 (x : UInt32) : (x >>> 24).toNat = x.toNat / 16777216 := by rw [UInt32.toNat_shiftRight]; exact Nat.shiftRight_eq_div_pow _ _
theorem le4_vals (x : UInt32) : (le4 x).map bv = [.int .u8 ((x.toNat : Int) % 256), .int .u8 ((x.toNat : Int) / 256 % 256), .int .u8 ((x.toNat : Int) / 65536 % 256), .int .u8 ((x.toNat : Int) / 16777216)] := by
  have h := x.toNat_lt
  have e0 : (x.toUInt8.toNat : Int) = (x.toNat : Int) % 256 := by rw [UInt32.toNat_toUInt8]; omega
  have e1 : ((x >>> 8).toUInt8.toNat : Int) = (x.toNat : Int) / 256 % 256 := by rw [UInt32.toNat_toUInt8, shr8]; omega
  have e2 : ((x >>> 16).toUInt8.toNat : Int) = (x.toNat : Int) / 65536 % 256 := by rw [UInt32.toNat_toUInt8, shr16]; omega
  have e3 : ((x >>> 24).toUInt8.toNat : Int) = (x.toNat : Int) / 16777216 := by rw [UInt32.toNat_toUInt8, shr24]; omega
  simp only [le4, List.map_cons, List.map_nil, bv, e0, e1, e2, e3]

set_option maxHeartbeats 400000 in
set_option maxRecDepth 10000 in
theorem word_Bytes (xs : List UInt32) (A : Option Addr) (n c : Nat) (w : World) (hxs : Sl w w.heap.size A n (xs.map wv)) (hn : n ≤ 1000000000000) :
    Calls Try.prog 16 #[.slice A n c] w fun e w' => (∃ s, e = .returned (.string s) ∧ Hid (s.data.toList = leBytes xs)) ∧ Below w.heap.size w w' := by
  obtain rfl : xs.length = n := by simpa using hxs.1
  go_enter Try.func16, Try.ntmps16
  go_wp2_with (at_make; refine wpList_make_row _ rfl _ _ 43 rfl w.heap.size 5 (.int .u8 0) 1 1 Try.underlying43 info_u8 _ _ _ (4 * xs.length) rfl rfl (by omega) (by omega) (by omega) (Nat.le_refl _) ?_; intro v0 w0 hown0 hb0 hg0 hv0)
  go_loopw [3, 12] (fun v i wr => ∃ k : Nat, k ≤ xs.length ∧ i = .int .i64 k ∧ wr.ownsRow w.heap.size 5 1 v (4 * k) ((leBytes (xs.take k)).map bv) ∧ Below w.heap.size w wr) (fun _ i _ => xs.length - (intOf i).toNat)
  case atStart => exact ⟨0, Nat.zero_le _, rfl, by simpa [leBytes] using hown0, hb0⟩
  case round =>
    obtain ⟨k, hk, rfl, hown, hbel⟩ := hrel
    have hsz := hbel.size
    by_cases hlt : k < xs.length
    · obtain ⟨b, off, rfl, hb, hcell⟩ := (hxs.below hbel).word hlt
      have hx32 := xs[k].toNat_lt
      have H4 := Lib.hid (le4_vals xs[k])
      have HS := Lib.hid (leBytes_snoc xs k hlt)
      go_wp2_with (at_builtin; refine wpList_append_new rfl _ _ 43 rfl w.heap.size (.int .u8 0) 1 1 Try.underlying43 info_u8 rfl (by decide) _ (4 * k) _ rfl hown 4 rfl rfl (by simp [Value.oneCell']) (by omega) (by omega) hsz ?_; intro v1 w1 hown1 hb1 _; rw [← H4.out, ← List.map_append, ← HS.out] at hown1)
      go_roundw
      case rel => exact ⟨k + 1, by omega, by go_num, hown1, hbel.trans hb1⟩
      case measure => simp [intOf]; omega
    · obtain rfl : k = xs.length := by omega
      obtain ⟨s, hconv, hS⟩ := string_row _ 43 9 Try.underlying43 Try.underlying5 Try.underlying9 hown
      rw [List.take_length] at hS
      go_wp2_with fail
      go_returns
      exact ⟨⟨s, rfl, hS⟩, hbel⟩
end Go.Proofs.Ytflcaokjcgadgaa
