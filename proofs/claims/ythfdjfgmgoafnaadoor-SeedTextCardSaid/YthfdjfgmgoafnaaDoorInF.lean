/- Layer 7, the document's instructions, walked. -/
import Derived.Test.YthfdjfgmgoafnaaDoorInC
import Derived.Test.YthfdjfgmgoafnaaDoorInE
namespace Go.Proofs.YthfdjfgmgoafnaaDoor
open Go.RowKit

/-- Does a byte stand in a text? -/
def hasB (l : List UInt8) (c : UInt8) : Bool := l.any fun x => decide (x.toNat = c.toNat)
theorem ref_has (s : ByteArray) (c : UInt8) (w : World) (hs : s.size ≤ 1000000000000) :
    Calls Tryd.prog 62 #[.string s, .int .u8 c.toNat] w fun e w' => e = .returned (.bool (hasB s.data.toList c)) ∧ w = w' := by
  go_enter Tryd.func62, Tryd.ntmps62
  go_wp2_with fail
  go_loop [5] (fun i => ∃ k : Nat, k ≤ s.size ∧ i = .int .i64 k ∧ Hid (∀ j (hj : j < s.data.toList.length), j < k → s.data.toList[j].toNat ≠ c.toNat)) (fun i => s.size - (intOf i).toNat)
  case atStart => exact ⟨0, Nat.zero_le _, rfl, fun j _ h => absurd h (by omega)⟩
  case round =>
    obtain ⟨k, hk, rfl, HD⟩ := hrel
    by_cases hlt : k < s.size
    · obtain ⟨x, hx⟩ : ∃ x, s[k] = x := ⟨_, rfl⟩
      have hxL : s.data.toList[k]'hlt = x := hx
      have HX := Lib.hid hxL
      clear hxL
      have hltI : (k : Int) < s.size := by omega
      have hk0 : (0 : Int) ≤ k := by omega
      by_cases heq : x.toNat = c.toNat
      · have hq : ((x.toNat : Int) == (c.toNat : Int)) = true := by rw [beq_iff_eq]; omega
        have HR : Hid (hasB s.data.toList c = true) := List.any_eq_true.2 ⟨x, by rw [← HX.out]; exact List.getElem_mem _, decide_eq_true heq⟩
        clear heq
        go_wp2_with fail
        go_returns
        exact ⟨ret_bool (by rw [HR.out]), rfl⟩
      · have hq : ((x.toNat : Int) == (c.toNat : Int)) = false := by rw [beq_eq_false_iff_ne]; omega
        have HE := Lib.hid heq
        clear heq
        go_wp2_with fail
        go_round
        case rel =>
          refine ⟨k + 1, hlt, rfl, fun j hj hjk => ?_⟩
          by_cases h : j = k
          · subst h; rw [HX.out]; exact HE.out
          · exact HD.out j hj (by omega)
        case measure => simp [intOf]; omega
    · obtain rfl : k = s.size := by omega
      have HR : Hid (hasB s.data.toList c = false) := List.any_eq_false.2 (fun x hx => by
        obtain ⟨i, hi, rfl⟩ := List.mem_iff_getElem.1 hx
        have := HD.out i hi hi
        simpa using this)
      go_wp2_with fail
      go_returns
      exact ⟨ret_bool (by rw [HR.out]), rfl⟩

theorem ref_within (n : Bool) (v m : Int) (w : World) :
    Calls Tryd.prog 63 #[.bool n, .int .i64 v, .int .i64 m] w fun e w' => e = .returned (.bool (withinI v m n)) ∧ w = w' := by
  cases n with
  | false =>
    by_cases h : v = 0
    · subst h
      go_enter Tryd.func63, Tryd.ntmps63
      go_wp2_with fail
      go_returns
      exact ⟨rfl, rfl⟩
    · have hq : (v == 0) = false := by rw [beq_eq_false_iff_ne]; exact h
      have H := Lib.hid h
      clear h
      go_enter Tryd.func63, Tryd.ntmps63
      go_wp2_with fail
      go_returns
      exact ⟨ret_bool (by unfold withinI; rw [if_neg (by decide), decide_eq_false H.out]), rfl⟩
  | true =>
    have hcase : (0 ≤ v ∧ v ≤ m) ∨ (0 ≤ v ∧ m < v) ∨ v < 0 := by omega
    rcases hcase with ⟨h1, h2⟩ | ⟨h1, h2⟩ | h1
    · have H := Lib.hid (decide_eq_true (show 0 ≤ v ∧ v ≤ m from ⟨h1, h2⟩))
      go_enter Tryd.func63, Tryd.ntmps63
      go_wp2_with fail
      go_returns
      exact ⟨ret_bool (by unfold withinI; rw [if_pos rfl, H.out]), rfl⟩
    · go_enter Tryd.func63, Tryd.ntmps63
      go_wp2_with fail
      go_returns
      exact ⟨ret_bool (by unfold withinI; simp; omega), rfl⟩
    · go_enter Tryd.func63, Tryd.ntmps63
      go_wp2_with fail
      go_returns
      exact ⟨ret_bool (by unfold withinI; simp; omega), rfl⟩

set_option maxHeartbeats 2000000 in
theorem ref_Op (s : ByteArray) (w : World) :
    Calls Tryd.prog 39 #[.string s] w fun e w' => e = .returned (.int .i64 (opI s.data.toList)) ∧ w = w' := by
  go_enter Tryd.func39, Tryd.ntmps39
  go_wp2_with fail
  go_loop [3] (fun i => ∃ k : Nat, 1 ≤ k ∧ k ≤ 28 ∧ i = .int .i64 k ∧ Hid (∀ j : Nat, 1 ≤ j → j < k → nameI (j : Int) ≠ s.data.toList)) (fun i => 28 - (intOf i).toNat)
  case atStart => exact ⟨1, by omega, by omega, rfl, fun j h1 h2 => absurd h1 (by omega)⟩
  case round =>
    obtain ⟨k, hk1, hk2, rfl, HN⟩ := hrel
    by_cases hlt : k ≤ 27
    · obtain ⟨N, hN⟩ : ∃ N : ByteArray, (⟨(nameI (k : Int)).toArray⟩ : ByteArray) = N := ⟨_, rfl⟩
      have hNl : Hid (N.data.toList = nameI (k : Int)) := by rw [← hN]; rfl
      have K := ref_Name (k : Int)
      rw [hN] at K
      have KH := Lib.hid K
      clear K hN
      by_cases heq : N = s
      · have hR : opI s.data.toList = k := opI_hit k hk1 hlt (by rw [← hNl.out, heq])
        have HR := Lib.hid hR
        subst heq
        clear hR
        go_wp2_with fail
        refine (KH.out _).mono ?_
        rintro e w2 ⟨rfl, rfl⟩
        go_wp2_with fail
        go_returns
        exact ⟨ret_int (by rw [HR.out]), rfl⟩
      · have hne := str_ne heq
        have HQ : Hid (nameI (k : Int) ≠ s.data.toList) := fun e => heq (ba_inj (by rw [hNl.out, e]))
        clear heq
        go_wp2_with fail
        refine (KH.out _).mono ?_
        rintro e w2 ⟨rfl, rfl⟩
        go_wp2_with fail
        go_round
        case rel =>
          refine ⟨k + 1, by omega, by omega, rfl, fun j h1 h2 => ?_⟩
          by_cases h : j = k
          · subst h; exact HQ.out
          · exact HN.out j h1 (by omega)
        case measure => simp [intOf]; omega
    · obtain rfl : k = 28 := by omega
      have hR : opI s.data.toList = 0 := opI_miss (fun j h1 h2 => HN.out j h1 (by omega))
      have HR := Lib.hid hR
      clear hR
      go_wp2_with fail
      go_returns
      exact ⟨ret_int (by rw [HR.out]), rfl⟩
end Go.Proofs.YthfdjfgmgoafnaaDoor
