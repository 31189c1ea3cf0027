/- Layer 2, the document's decimal numerals, walked. -/
import Derived.Test.YtepgnnlihnajeaaApp
import Derived.Test.YtepgnnlihnajeaaHxP
namespace Go.Proofs.Ytepgnnlihnajeaa
open Go.RowKit

theorem cv1 (x : Int) (y : UInt8) (hy : x = (y.toNat : Int)) (W : World) : (convert 46 9 (.slice (some ⟨W.heap.size, 0, none⟩) 1 1)).run Try.prog (W.alloc (.cells #[.int .u8 x] 5)) = .ok (.string ⟨#[y]⟩) (W.alloc (.cells #[.int .u8 x] 5)) := by
  subst hy
  exact run_string_row [y] 46 9 Try.underlying46 Try.underlying5 Try.underlying9 (own_lit1 W _ W.heap.size (Nat.le_refl _) _)
theorem dig_bv (n : Nat) (h : n < 10) : bv (UInt8.ofNat (48 + n)) = .int .u8 (48 + (n : Int)) := by
  unfold bv
  rw [UInt8.toNat_ofNat']
  congr 1
  omega

set_option maxHeartbeats 1000000 in
theorem ref_decimal (n : Nat) (w : World) (hn : n ≤ 1000000000000) :
    Calls Try.prog 25 #[.int .i64 (n : Int)] w fun e w' => (∃ t, e = .returned (.string t) ∧ Hid (t.data.toList = Lib.decDigits n)) ∧ Below w.heap.size w w' := by
  by_cases h10 : n < 10
  · have hd := Lib.decDigits_one h10
    have HD := Lib.hid hd
    have hcv := cv1 (48 + (n : Int)) (UInt8.ofNat (48 + n)) (by rw [UInt8.toNat_ofNat']; omega)
    obtain ⟨T, hT⟩ : ∃ T : ByteArray, (⟨#[UInt8.ofNat (48 + n)]⟩ : ByteArray) = T := ⟨_, rfl⟩
    have hTl : Hid (T.data.toList = Lib.decDigits n) := by unfold Hid; rw [← hT, hd]
    rw [hT] at hcv
    clear hT hd
    go_enter Try.func25, Try.ntmps25
    go_wp2_with fail
    go_returns
    exact ⟨⟨T, rfl, hTl⟩, (Below.refl _ w).alloc (Nat.le_refl _) _⟩
  · have hdl := dec_length n hn
    go_enter Try.func25, Try.ntmps25
    go_wp2_with fail
    go_loopw [0, 3] (fun nv v wr => ∃ (m : Nat) (o : List UInt8), m ≤ n ∧ nv = .int .i64 m ∧ Hid (m = 0 → o = Lib.decDigits n) ∧ Hid (0 < m → Lib.decDigits m ++ o = Lib.decDigits n) ∧ wr.ownsRow w.heap.size 5 1 v o.length (o.map bv) ∧ Below w.heap.size w wr) (fun nv _ _ => (intOf nv).toNat)
    case atStart => exact ⟨n, [], Nat.le_refl _, rfl, fun h => absurd h (by omega), fun _ => List.append_nil _, ⟨rfl, .inl ⟨rfl, rfl⟩⟩, Below.refl _ _⟩
    case round =>
      obtain ⟨m, o, hm, rfl, H0, H1, hown, hbel⟩ := hrel
      have hsz := hbel.size
      by_cases hm0 : 0 < m
      · have hol : o.length ≤ 21 := by
          have h := congrArg List.length (H1.out hm0)
          rw [List.length_append] at h
          omega
        have HV := Lib.hid (dig_bv (m % 10) (by omega))
        have HN0 : Hid (m / 10 = 0 → [UInt8.ofNat (48 + m % 10)] ++ o = Lib.decDigits n) := by
          intro h
          rw [← H1.out hm0, Lib.decDigits_one (show m < 10 by omega), show m % 10 = m by omega]
        have HN1 : Hid (0 < m / 10 → Lib.decDigits (m / 10) ++ ([UInt8.ofNat (48 + m % 10)] ++ o) = Lib.decDigits n) := by
          intro h
          rw [← H1.out hm0, dec_rec (show 10 ≤ m by omega), List.append_assoc]
        obtain ⟨A, c, rfl, _, _, hS⟩ := Sl.of_own hown
        clear H0 H1
        go_wp2_with (at_builtin; refine wpList_append_sl rfl _ _ 46 rfl w.heap.size 5 (.int .u8 0) 1 Try.underlying46 info_u8 rfl _ 1 _ rfl (own_lit1 wr 5 w.heap.size hsz (.int .u8 (48 + (m : Int) % 10))) A o.length c (o.map bv) rfl ((hS.below ((Below.refl _ wr).alloc (Nat.le_refl _) _)).more (by simp)) (bv_oneCell o) (by omega) (by omega) (by simp; omega) ?_; intro v1 w1 hown1 hb1)
        have bel1 : Below w.heap.size w w1 := (hbel.alloc hsz _).trans hb1
        go_roundw
        case rel =>
          refine ⟨m / 10, [UInt8.ofNat (48 + m % 10)] ++ o, by omega, by go_num, HN0, HN1, ?_, bel1⟩
          rw [List.map_append, List.map_singleton, HV.out, List.length_append, List.length_singleton]
          exact hown1
        case measure => simp [intOf]; omega
      · obtain rfl : m = 0 := by omega
        have hq := H0.out rfl
        have HQ := Lib.hid hq
        clear hq H0 H1
        obtain ⟨t, hconv, hS⟩ := string_row _ 46 9 Try.underlying46 Try.underlying5 Try.underlying9 hown
        go_wp2_with fail
        go_returns
        exact ⟨⟨t, rfl, by unfold Hid; rw [hS.out, HQ.out]⟩, hbel⟩
end Go.Proofs.Ytepgnnlihnajeaa
