/- Layer 1: a text read as a word, walked: the program's. -/
import Derived.Test.YtknonabeagbjeaaGreatDoorWrP
namespace Go.Proofs.YtknonabeagbjeaaGreatDoor
open Go.RowKit

theorem bad_of (s : ByteArray) : badHead s.data.toList = true ↔ (s = ⟨#[]⟩ ∨ ∃ h : 1 < s.size, s[0] = 48) := by
  unfold badHead
  rw [Bool.or_eq_true, decide_eq_true_iff, Bool.and_eq_true, decide_eq_true_iff, decide_eq_true_iff]
  constructor
  · rintro (h | ⟨h1, h2⟩)
    · exact .inl (ba_inj h)
    · have h3 : 1 < s.size := h1
      refine .inr ⟨h3, ?_⟩
      rw [List.head?_eq_getElem?, List.getElem?_eq_getElem (by omega)] at h2
      exact Option.some.inj h2
  · rintro (h | ⟨h1, h2⟩)
    · exact .inl (by rw [h])
    · refine .inr ⟨h1, ?_⟩
      have h3 : 0 < s.data.toList.length := by have : s.data.toList.length = s.size := rfl; omega
      rw [List.head?_eq_getElem?, List.getElem?_eq_getElem h3]
      exact congrArg some h2
theorem ne_nil (s : ByteArray) (h : 0 < s.size) : (s.toList == []) = false ∧ s.toList.isEmpty = false := by
  rw [Lib.toList_data]
  cases hh : s.data.toList with
  | nil =>
    have h2 : s.size = 0 := by
      show s.data.toList.length = 0
      rw [hh]
      rfl
    omega
  | cons x r => exact ⟨by simp, rfl⟩
theorem all_take (l : List UInt8) (k : Nat) (h : k < l.length) (ha : (l.take k).all isD = true) (hx : isD l[k] = true) : (l.take (k + 1)).all isD = true := by
  rw [List.take_succ_eq_append_getElem h, List.all_append, ha, List.all_cons, List.all_nil, hx]
  rfl
theorem val_take (l : List UInt8) (k : Nat) (h : k < l.length) : valL (l.take (k + 1)) = valL (l.take k) * 10 + (l[k].toNat - 48) := by
  rw [List.take_succ_eq_append_getElem h, valL_snoc]
theorem val_bound (l : List UInt8) (h : l.all isD = true) : valL l < 10 ^ l.length := by
  have key : ∀ (k : Nat) (l : List UInt8), l.length = k → l.all isD = true → valL l < 10 ^ k := by
    intro k
    induction k with
    | zero => intro l hl _; rw [List.eq_nil_of_length_eq_zero hl]; decide
    | succ k ih =>
      intro l hl ha
      obtain ⟨r, x, rfl⟩ := snoc_of l (by intro e; rw [e] at hl; simp at hl)
      rw [List.all_append, Bool.and_eq_true] at ha
      have h1 := ih r (by rw [List.length_append] at hl; simpa using hl) ha.1
      have hx : isD x = true := by simpa using ha.2
      have hx2 := of_decide_eq_true hx
      rw [valL_snoc, Nat.pow_succ]
      omega
  exact key l.length l rfl h

set_option maxRecDepth 100000 in
set_option maxHeartbeats 2000000 in
theorem word_Parse (s : ByteArray) (w : World) (hs : s.size ≤ 1000000) :
    Calls Tryz.prog 68 #[.string s] w fun e w' => e = .returned (.tuple #[.int .u32 (parseW s.data.toList).1.toNat, .int .i64 (parseW s.data.toList).2]) ∧ w = w' := by
  by_cases hb : badHead s.data.toList = true
  · have hP : parseW s.data.toList = (0, 3) := by unfold parseW; rw [if_pos (.inl hb)]
    rw [hP]
    rcases (bad_of s).1 hb with rfl | ⟨h1, h0⟩
    · clear hb hP
      go_enter Tryz.func68, Tryz.ntmps68
      go_wp2_with fail
      go_returns
      exact ⟨rfl, rfl⟩
    · have h1I : (1 : Int) < s.size := by omega
      have h0I : (0 : Int) < s.size := by omega
      have h0N : 0 < s.size := by omega
      obtain ⟨hne, hne2⟩ := ne_nil s h0N
      clear hb hP
      go_enter Tryz.func68, Tryz.ntmps68
      go_wp2_with fail
      go_returns
      exact ⟨rfl, rfl⟩
  · have hb1 : badHead s.data.toList = false := by cases hh : badHead s.data.toList with | false => rfl | true => exact absurd hh hb
    have h0N : 0 < s.size := by
      rcases Nat.eq_zero_or_pos s.size with h | h
      · exact absurd ((bad_of s).2 (.inl (ba_inj (List.eq_nil_of_length_eq_zero h)))) hb
      · exact h
    have h0I : (0 : Int) < s.size := by omega
    obtain ⟨hne, hne2⟩ := ne_nil s h0N
    obtain ⟨x0, hx0⟩ : ∃ x, s[0] = x := ⟨_, rfl⟩
    have hcase : s.size = 1 ∨ (1 < s.size ∧ ((x0.toNat : Int) == 48) = false) := by
      rcases Nat.lt_or_ge 1 s.size with h | h
      · refine .inr ⟨h, ?_⟩
        rw [beq_eq_false_iff_ne]
        intro e
        apply hb
        refine (bad_of s).2 (.inr ⟨h, ?_⟩)
        rw [hx0]
        exact UInt8.toNat_inj.1 (by rw [show (48 : UInt8).toNat = 48 from rfl]; omega)
      · exact .inl (by omega)
    obtain ⟨P, hP⟩ : ∃ P, parseW s.data.toList = P := ⟨_, rfl⟩
    have HB := Lib.hid hb1
    have HP := Lib.hid hP
    rw [hP]
    have hloop : ∀ k (h : k < s.size), isD s.data.toList[k] = false → P = (0, 3) := by
      intro k h hx
      have ha : s.data.toList.all isD = false := by
        cases hh : s.data.toList.all isD with
        | false => rfl
        | true =>
          have := List.all_eq_true.1 hh _ (List.getElem_mem (show k < s.data.toList.length from h))
          rw [hx] at this
          exact absurd this (by decide)
      rw [← hP]
      unfold parseW
      rw [if_pos (.inr ha)]
    have HL := Lib.hid hloop
    clear hb hb1 hP hloop
    rcases hcase with h1 | ⟨h1, hq0⟩
    all_goals
      have h1I : (1 : Int) ≤ s.size := by omega
      (try have h2I : (1 : Int) < s.size := by omega)
      go_enter Tryz.func68, Tryz.ntmps68
      go_wp2_with fail
      go_loop [4] (fun i => ∃ k : Nat, k ≤ s.size ∧ i = .int .i64 k ∧ Hid ((s.data.toList.take k).all isD = true)) (fun i => s.size - (intOf i).toNat)
      case atStart => exact ⟨0, Nat.zero_le _, rfl, rfl⟩
      case round =>
        obtain ⟨k, hk, rfl, HA⟩ := hrel
        by_cases hlt : k < s.size
        · obtain ⟨x, hx⟩ : ∃ x, s[k] = x := ⟨_, rfl⟩
          have hxL : s.data.toList[k]'hlt = x := hx
          have HX := Lib.hid hxL
          have hltI : (k : Int) < s.size := by omega
          have hk0 : (0 : Int) ≤ k := by omega
          clear hxL
          have hd : x.toNat < 48 ∨ (48 ≤ x.toNat ∧ 57 < x.toNat) ∨ (48 ≤ x.toNat ∧ x.toNat ≤ 57) := by omega
          rcases hd with hd | ⟨hd, hd2⟩ | ⟨hd, hd2⟩
          · have HR : Hid (P = (0, 3)) := HL.out k hlt (by rw [HX.out]; exact decide_eq_false (by omega))
            have hdI : (x.toNat : Int) < 48 := by omega
            clear hd
            go_wp2_with fail
            go_returns
            exact ⟨by rw [HR.out]; rfl, rfl⟩
          · have HR : Hid (P = (0, 3)) := HL.out k hlt (by rw [HX.out]; exact decide_eq_false (by omega))
            have hdI : ((x.toNat : Int) < 48) = False := eq_false (by omega)
            have hdJ : (57 : Int) < x.toNat := by omega
            clear hd hd2
            go_wp2_with fail
            go_returns
            exact ⟨by rw [HR.out]; rfl, rfl⟩
          · have HN : Hid ((s.data.toList.take (k + 1)).all isD = true) := all_take _ k hlt HA.out (by rw [HX.out]; exact decide_eq_true ⟨hd, hd2⟩)
            have hdI : ((x.toNat : Int) < 48) = False := eq_false (by omega)
            have hdJ : ((57 : Int) < x.toNat) = False := eq_false (by omega)
            clear hd hd2
            go_wp2_with fail
            go_round
            case rel => exact ⟨k + 1, hlt, rfl, HN⟩
            case measure => simp [intOf]; omega
        · obtain rfl : k = s.size := by omega
          have HD : Hid (s.data.toList.all isD = true) := by
            have h := HA.out
            rw [show s.data.toList.take s.size = s.data.toList from List.take_of_length_le (Nat.le_refl _)] at h
            exact h
          by_cases h10 : 10 < s.size
          · have HR : Hid (P = (0, 2)) := by
              unfold Hid
              rw [← HP.out]
              unfold parseW
              rw [if_neg (by rw [HB.out, HD.out]; simp), if_pos (val_long _ HB.out HD.out h10)]
            have h10I : (10 : Int) < s.size := by omega
            first
              | (exfalso
                 have := h1
                 omega)
              | (go_wp2_with fail
                 go_returns
                 exact ⟨by rw [HR.out]; rfl, rfl⟩)
          · have h10I : ¬ (10 : Int) < s.size := by omega
            go_wp2_with fail
            go_loop [5, 6] (fun nv iv => ∃ k : Nat, k ≤ s.size ∧ iv = .int .i64 k ∧ nv = .int .u64 ((valL (s.data.toList.take k) : Nat) : Int)) (fun _ iv => s.size - (intOf iv).toNat)
            case atStart => exact ⟨0, Nat.zero_le _, rfl, rfl⟩
            case round =>
              obtain ⟨k, hk, rfl, rfl⟩ := hrel
              by_cases hlt : k < s.size
              · obtain ⟨x, hx⟩ : ∃ x, s[k] = x := ⟨_, rfl⟩
                have hxL : s.data.toList[k]'hlt = x := hx
                have hltI : (k : Int) < s.size := by omega
                have hk0 : (0 : Int) ≤ k := by omega
                have hxd : isD x = true := by rw [← hxL]; exact List.all_eq_true.1 HD.out _ (List.getElem_mem _)
                have hx2 := of_decide_eq_true hxd
                have hv := val_take s.data.toList k hlt
                rw [hxL] at hv
                have hVb : valL (s.data.toList.take k) < 10 ^ 10 := by
                  have h9 := val_bound (s.data.toList.take k) (List.all_eq_true.2 fun y hy => List.all_eq_true.1 HD.out y (List.mem_of_mem_take hy))
                  have h8 : (s.data.toList.take k).length ≤ 10 := by
                    rw [List.length_take]
                    omega
                  exact Nat.lt_of_lt_of_le h9 (Nat.pow_le_pow_right (by decide) h8)
                obtain ⟨V, hV⟩ : ∃ V, valL (s.data.toList.take k) = V := ⟨_, rfl⟩
                rw [hV] at hv hVb ⊢
                obtain ⟨dd, hdd⟩ : ∃ dd : Nat, x.toNat - 48 = dd := ⟨_, rfl⟩
                rw [hdd] at hv
                have hw : IntKind.u8.wrap ((x.toNat : Int) - 48) = (dd : Int) := by rw [IntKind.wrap_u8]; omega
                have hw2 : IntKind.u64.wrap (dd : Int) = (dd : Int) := by rw [IntKind.wrap_u64]; omega
                have hw3 : IntKind.u64.wrap ((V : Int) * 10) = (V : Int) * 10 := by rw [IntKind.wrap_u64]; omega
                have hw4 : IntKind.u64.wrap ((V : Int) * 10 + (dd : Int)) = (V : Int) * 10 + (dd : Int) := by rw [IntKind.wrap_u64]; omega
                have HV : Hid (((valL (s.data.toList.take (k + 1)) : Nat) : Int) = (V : Int) * 10 + (dd : Int)) := by unfold Hid; omega
                clear hxL hxd hx2 hv hV hVb hdd
                go_wp2_with fail
                go_round
                case rel => exact ⟨k + 1, hlt, rfl, by rw [HV.out]⟩
                case measure => simp [intOf]; omega
              · obtain rfl : k = s.size := by omega
                rw [show s.data.toList.take s.size = s.data.toList from List.take_of_length_le (Nat.le_refl _)]
                obtain ⟨V, hV⟩ : ∃ V, valL s.data.toList = V := ⟨_, rfl⟩
                rw [hV]
                by_cases hbig : 4294967296 ≤ V
                · have HR : Hid (P = (0, 2)) := by
                    unfold Hid
                    rw [← HP.out]
                    unfold parseW
                    rw [if_neg (by rw [HB.out, HD.out]; simp), hV, if_pos hbig]
                  have hbI : (4294967295 : Int) < V := by omega
                  clear hV hbig
                  go_wp2_with fail
                  go_returns
                  exact ⟨by rw [HR.out]; rfl, rfl⟩
                · have HR : Hid (P = (UInt32.ofNat V, 0)) := by
                    unfold Hid
                    rw [← HP.out]
                    unfold parseW
                    rw [if_neg (by rw [HB.out, HD.out]; simp), hV, if_neg hbig]
                  have hbI : ((4294967295 : Int) < V) = False := eq_false (by omega)
                  have hcv : IntKind.u32.wrap (V : Int) = (V : Int) := by rw [IntKind.wrap_u32]; omega
                  have HE : Hid (((UInt32.ofNat V).toNat : Int) = V) := by unfold Hid; rw [UInt32.toNat_ofNat']; omega
                  clear hV hbig
                  go_wp2_with fail
                  go_returns
                  exact ⟨ret_ints (by rw [HR.out, HE.out]) (by rw [HR.out]), rfl⟩
end Go.Proofs.YtknonabeagbjeaaGreatDoor
