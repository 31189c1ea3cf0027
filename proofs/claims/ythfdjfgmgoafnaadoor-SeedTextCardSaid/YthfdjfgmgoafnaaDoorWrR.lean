/- Layer 1: a text read as a word, walked: the document's. -/
import Derived.Test.YthfdjfgmgoafnaaDoorWrQ
namespace Go.Proofs.YthfdjfgmgoafnaaDoor
open Go.RowKit

set_option maxRecDepth 100000 in
set_option maxHeartbeats 2000000 in
theorem refW_Parse (s : ByteArray) (w : World) (hs : s.size ≤ 200) :
    Calls Tryd.prog 52 #[.string s] w fun e w' => e = .returned (.tuple #[.int .u32 (parseW s.data.toList).1.toNat, .int .i64 (parseW s.data.toList).2]) ∧ w = w' := by
  by_cases hb : badHead s.data.toList = true
  · have hP : parseW s.data.toList = (0, 3) := by unfold parseW; rw [if_pos (.inl hb)]
    rw [hP]
    rcases (bad_of s).1 hb with rfl | ⟨h1, h0⟩
    · clear hb hP
      go_enter Tryd.func52, Tryd.ntmps52
      go_wp2_with fail
      go_returns
      exact ⟨rfl, rfl⟩
    · have h1I : (1 : Int) < s.size := by omega
      have h0I : (0 : Int) < s.size := by omega
      have h0N : 0 < s.size := by omega
      have hz : ((s.size : Int) == 0) = false := by rw [beq_eq_false_iff_ne]; omega
      clear hb hP
      go_enter Tryd.func52, Tryd.ntmps52
      go_wp2_with fail
      go_returns
      exact ⟨rfl, rfl⟩
  · have hb1 : badHead s.data.toList = false := by cases hh : badHead s.data.toList with | false => rfl | true => exact absurd hh hb
    have h0N : 0 < s.size := by
      rcases Nat.eq_zero_or_pos s.size with h | h
      · exact absurd ((bad_of s).2 (.inl (ba_inj (List.eq_nil_of_length_eq_zero h)))) hb
      · exact h
    have h0I : (0 : Int) < s.size := by omega
    have hz : ((s.size : Int) == 0) = false := by rw [beq_eq_false_iff_ne]; omega
    obtain ⟨x0, hx0⟩ : ∃ x, s[0] = x := ⟨_, rfl⟩
    have hcase : s.size = 1 ∨ (1 < s.size ∧ ((x0.toNat : Int) == 48) = false) := by
      rcases Nat.lt_or_ge 1 s.size with h | h
      · refine .inr ⟨h, ?_⟩
        rw [beq_eq_false_iff_ne]
        intro e
        apply hb
        refine (bad_of s).2 (.inr ⟨h, ?_⟩)
        rw [hx0]
        exact UInt8.toNat_inj.1 (by rw [show (48 : UInt8).toNat = 48 from rfl]; omega)
      · exact .inl (by omega)
    obtain ⟨P, hP⟩ : ∃ P, parseW s.data.toList = P := ⟨_, rfl⟩
    have HB := Lib.hid hb1
    have HP := Lib.hid hP
    rw [hP]
    have hloop : ∀ k (h : k < s.size), isD s.data.toList[k] = false → P = (0, 3) := by
      intro k h hx
      have ha : s.data.toList.all isD = false := by
        cases hh : s.data.toList.all isD with
        | false => rfl
        | true =>
          have := List.all_eq_true.1 hh _ (List.getElem_mem (show k < s.data.toList.length from h))
          rw [hx] at this
          exact absurd this (by decide)
      rw [← hP]
      unfold parseW
      rw [if_pos (.inr ha)]
    have HL := Lib.hid hloop
    clear hb hb1 hP hloop
    rcases hcase with h1 | ⟨h1, hq0⟩
    all_goals
      have h1I : (1 : Int) ≤ s.size := by omega
      (try have h2I : (1 : Int) < s.size := by omega)
      go_enter Tryd.func52, Tryd.ntmps52
      go_wp2_with fail
      go_loop [4, 5] (fun nv i => ∃ k : Nat, k ≤ s.size ∧ i = .int .i64 k ∧ nv = .int .u64 ((Nat.min (valL (s.data.toList.take k)) 4294967296 : Nat) : Int) ∧ Hid ((s.data.toList.take k).all isD = true)) (fun _ i => s.size - (intOf i).toNat)
      case atStart => exact ⟨0, Nat.zero_le _, rfl, rfl, rfl⟩
      case round =>
        obtain ⟨k, hk, rfl, rfl, HA⟩ := hrel
        by_cases hlt : k < s.size
        · obtain ⟨x, hx⟩ : ∃ x, s[k] = x := ⟨_, rfl⟩
          have hxL : s.data.toList[k]'hlt = x := hx
          have HX := Lib.hid hxL
          have hltI : (k : Int) < s.size := by omega
          have hk0 : (0 : Int) ≤ k := by omega
          have hv := val_take s.data.toList k hlt
          rw [hxL] at hv
          obtain ⟨V, hV⟩ : ∃ V, valL (s.data.toList.take k) = V := ⟨_, rfl⟩
          rw [hV] at hv ⊢
          obtain ⟨m, hm⟩ : ∃ m, Nat.min V 4294967296 = m := ⟨_, rfl⟩
          rw [hm]
          have hmb : (m ≤ 4294967296 ∧ (V ≤ 4294967296 → m = V) ∧ (4294967296 ≤ V → m = 4294967296)) := by
            rw [← hm]
            refine ⟨Nat.min_le_right _ _, fun h => Nat.min_eq_left h, fun h => Nat.min_eq_right h⟩
          have HM := Lib.hid hmb
          obtain ⟨dd, hdd⟩ : ∃ dd : Nat, x.toNat - 48 = dd := ⟨_, rfl⟩
          rw [hdd] at hv
          have HV := Lib.hid hv
          have HDD := Lib.hid hdd
          have hd : x.toNat < 48 ∨ (48 ≤ x.toNat ∧ 57 < x.toNat) ∨ (48 ≤ x.toNat ∧ x.toNat ≤ 57) := by omega
          clear hxL hv hV hm hmb hdd
          rcases hd with hd | ⟨hd, hd2⟩ | ⟨hd, hd2⟩
          · have HR : Hid (P = (0, 3)) := HL.out k hlt (by rw [HX.out]; exact decide_eq_false (by omega))
            have hdI : (x.toNat : Int) < 48 := by omega
            clear hd
            go_wp2_with fail
            go_returns
            exact ⟨by rw [HR.out]; rfl, rfl⟩
          · have HR : Hid (P = (0, 3)) := HL.out k hlt (by rw [HX.out]; exact decide_eq_false (by omega))
            have hdI : ((x.toNat : Int) < 48) = False := eq_false (by omega)
            have hdJ : (57 : Int) < x.toNat := by omega
            clear hd hd2
            go_wp2_with fail
            go_returns
            exact ⟨by rw [HR.out]; rfl, rfl⟩
          · have HN : Hid ((s.data.toList.take (k + 1)).all isD = true) := all_take _ k hlt HA.out (by rw [HX.out]; exact decide_eq_true ⟨hd, hd2⟩)
            have hdI : ((x.toNat : Int) < 48) = False := eq_false (by omega)
            have hdJ : ((57 : Int) < x.toNat) = False := eq_false (by omega)
            have hmb := HM.out
            have hdd := HDD.out
            have hv := HV.out
            have hw : IntKind.u8.wrap ((x.toNat : Int) - 48) = (dd : Int) := by rw [IntKind.wrap_u8]; omega
            have hw2 : IntKind.u64.wrap (dd : Int) = (dd : Int) := by rw [IntKind.wrap_u64]; omega
            have hw3 : IntKind.u64.wrap ((m : Int) * 10) = (m : Int) * 10 := by rw [IntKind.wrap_u64]; omega
            have hw4 : IntKind.u64.wrap ((m : Int) * 10 + (dd : Int)) = (m : Int) * 10 + (dd : Int) := by rw [IntKind.wrap_u64]; omega
            by_cases hg : 4294967296 < m * 10 + dd
            · have hgI : (4294967296 : Int) < (m : Int) * 10 + (dd : Int) := by omega
              have HE : Hid (Nat.min (valL (s.data.toList.take (k + 1))) 4294967296 = 4294967296) := Nat.min_eq_right (by omega)
              clear hg hd hd2 hmb hdd hv
              go_wp2_with fail
              go_round
              case rel => exact ⟨k + 1, hlt, rfl, by rw [HE.out]; rfl, HN⟩
              case measure => simp [intOf]; omega
            · have hgI : ((4294967296 : Int) < (m : Int) * 10 + (dd : Int)) = False := eq_false (by omega)
              have HE : Hid (((Nat.min (valL (s.data.toList.take (k + 1))) 4294967296 : Nat) : Int) = (m : Int) * 10 + (dd : Int)) := by
                unfold Hid
                rw [show Nat.min (valL (s.data.toList.take (k + 1))) 4294967296 = valL (s.data.toList.take (k + 1)) from Nat.min_eq_left (by omega)]
                omega
              clear hg hd hd2 hmb hdd hv
              go_wp2_with fail
              go_round
              case rel => exact ⟨k + 1, hlt, rfl, by rw [HE.out], HN⟩
              case measure => simp [intOf]; omega
        · obtain rfl : k = s.size := by omega
          have HD : Hid (s.data.toList.all isD = true) := by
            have h := HA.out
            rw [show s.data.toList.take s.size = s.data.toList from List.take_of_length_le (Nat.le_refl _)] at h
            exact h
          rw [show s.data.toList.take s.size = s.data.toList from List.take_of_length_le (Nat.le_refl _)]
          obtain ⟨V, hV⟩ : ∃ V, valL s.data.toList = V := ⟨_, rfl⟩
          rw [hV]
          by_cases hbig : 4294967296 ≤ V
          · have HR : Hid (P = (0, 2)) := by
              unfold Hid
              rw [← HP.out]
              unfold parseW
              rw [if_neg (by rw [HB.out, HD.out]; simp), hV, if_pos hbig]
            rw [show Nat.min V 4294967296 = 4294967296 from Nat.min_eq_right hbig]
            clear hV hbig
            go_wp2_with fail
            go_returns
            exact ⟨by rw [HR.out]; rfl, rfl⟩
          · have HR : Hid (P = (UInt32.ofNat V, 0)) := by
              unfold Hid
              rw [← HP.out]
              unfold parseW
              rw [if_neg (by rw [HB.out, HD.out]; simp), hV, if_neg hbig]
            rw [show Nat.min V 4294967296 = V from Nat.min_eq_left (by omega)]
            have hbI : ((4294967296 : Int) ≤ (V : Int)) = False := eq_false (by omega)
            have hcv : IntKind.u32.wrap (V : Int) = (V : Int) := by rw [IntKind.wrap_u32]; omega
            have HE : Hid (((UInt32.ofNat V).toNat : Int) = V) := by unfold Hid; rw [UInt32.toNat_ofNat']; omega
            clear hV hbig
            go_wp2_with fail
            go_returns
            exact ⟨ret_ints (by rw [HR.out, HE.out]) (by rw [HR.out]), rfl⟩
end Go.Proofs.YthfdjfgmgoafnaaDoor
