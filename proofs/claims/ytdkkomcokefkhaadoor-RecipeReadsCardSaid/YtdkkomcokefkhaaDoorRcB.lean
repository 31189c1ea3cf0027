/- Layer 37: may a recipe be? The document's answer, walked. -/
import Derived.Test.YtdkkomcokefkhaaDoorRcA
namespace Go.Proofs.YtdkkomcokefkhaaDoor
open Go.RowKit

theorem rr_most {t f : Int} {I : Nat → UInt32} {ps : List Int} {m : Nat} (h : ¬ m ≤ 20) : rightR t I ps m f = false := by
  unfold rightR
  rw [show (if t = 1 ∨ t = 6 then decide (m ≤ 20) else decide (m = 1)) = false by
    split
    · exact decide_eq_false h
    · exact decide_eq_false (by omega)]
  simp only [Bool.and_false]
set_option maxHeartbeats 8000000 in
theorem refR_Right (t : Int) (I : Nat → UInt32) (A B : Option Addr) (ps : List Int) (c m e : Nat) (f : Int) (w : World) (hs : Sl w w.heap.size A ps.length (ps.map iv)) (hn : ps.length ≤ 1000000000000) (hm : m ≤ 1000000000000) :
    Calls Tryd.prog 18 #[.agg #[.int .i64 t, .int .u32 (I 0).toNat, .int .u32 (I 1).toNat, .int .u32 (I 2).toNat, .int .u32 (I 3).toNat, .slice A ps.length c, .slice B m e, .int .i64 f]] w fun r w' => r = .returned (.bool (rightR t I ps m f)) ∧ Below w.heap.size w w' := by
  have h0 := Rb.new w t I (.slice A ps.length c) (.slice B m e) f
  have heq := imgZ_run I
  obtain ⟨z, hz⟩ : ∃ z, imgZ I = z := ⟨_, rfl⟩
  rw [hz] at heq
  obtain ⟨P, hP⟩ : ∃ P, rightR t I ps m f = P := ⟨_, rfl⟩
  rw [hP]
  by_cases ht : 1 ≤ t ∧ t ≤ 6
  case neg =>
    have HR : Hid (P = false) := by unfold Hid; rw [← hP]; exact rr_tool ht
    obtain ⟨c0, c1, c2, c3, c4, c5, c6, c7⟩ := h0.all
    have hc : t < 1 ∨ ((t < 1) = False ∧ 6 < t) := by
      rcases Int.lt_or_le t 1 with h | h
      · exact .inl h
      · exact .inr ⟨eq_false (by omega), by omega⟩
    clear hP hz ht
    rcases hc with h1 | ⟨h1, h2⟩
    all_goals
      go_enter Tryd.func18, Tryd.ntmps18
      go_wp2_with fail
      go_returns
      exact ⟨ret_bool (by rw [HR.out]), h0.bel⟩
  case pos =>
    by_cases hm20 : m ≤ 20
    case neg =>
      have HR : Hid (P = false) := by unfold Hid; rw [← hP]; exact rr_most hm20
      obtain ⟨c0, c1, c2, c3, c4, c5, c6, c7⟩ := h0.all
      have t1 : (t < 1) = False := eq_false (by omega)
      have t2 : ((6 : Int) < t) = False := eq_false (by omega)
      have m1 : (20 : Int) < m := by omega
      clear hP hz ht hm20
      go_enter Tryd.func18, Tryd.ntmps18
      go_wp2_with fail
      go_returns
      exact ⟨ret_bool (by rw [HR.out]), h0.bel⟩
    have m2 : ((20 : Int) < m) = False := eq_false (by omega)
    have HM20 := Lib.hid hm20
    have h6 : t = 1 ∨ t = 2 ∨ t = 3 ∨ t = 4 ∨ t = 5 ∨ t = 6 := by omega
    clear hm20
    rcases h6 with rfl | rfl | rfl | rfl | rfl | rfl
    · obtain ⟨c0, c1, c2, c3, c4, c5, c6, c7⟩ := h0.all
      by_cases hf : 0 ≤ f ∧ f ≤ 100000000
      case neg =>
        have HR : Hid (P = false) := by unfold Hid; rw [← hP]; exact rr_fuel hf
        have hc : f < 0 ∨ ((f < 0) = False ∧ (100000000 : Int) < f) := by
          rcases Int.lt_or_le f 0 with h | h
          · exact .inl h
          · exact .inr ⟨eq_false (by omega), by omega⟩
        clear hP hz ht hf
        rcases hc with h1 | ⟨h1, h2⟩
        all_goals
          go_enter Tryd.func18, Tryd.ntmps18
          go_wp2_with fail
          go_returns
          exact ⟨ret_bool (by rw [HR.out]), h0.bel⟩
      have f1 : (f < 0) = False := eq_false (by omega)
      have f2 : ((100000000 : Int) < f) = False := eq_false (by omega)
      have HOK : Hid (ps.length ≤ 20 → ps.length = 0 → P = true) := by
        intro h1 h2
        rw [← hP, rr_ok ht (.inl rfl) hf h1 (.inr h2) (by rw [List.eq_nil_of_length_eq_zero h2]; rfl), if_pos (.inl rfl)]
        exact decide_eq_true HM20.out
      by_cases hl0 : ps.length = 0
      case neg =>
        have HR : Hid (P = false) := by unfold Hid; rw [← hP]; exact rr_reg (fun h => h.elim (fun e => absurd e (by decide)) hl0)
        have hlJ : (0 : Int) < ps.length := by omega
        have hlK : 0 < ps.length := by omega
        clear hP hz ht HOK
        go_enter Tryd.func18, Tryd.ntmps18
        go_wp2_with fail
        go_returns
        exact ⟨ret_bool (by rw [HR.out]), h0.bel⟩
      have HR := Lib.hid (HOK.out (by omega) hl0)
      obtain rfl : ps = [] := List.eq_nil_of_length_eq_zero hl0
      clear hP hz ht hl0 HOK
      go_enter Tryd.func18, Tryd.ntmps18
      go_wp2_with fail
      refine wp_loop_rounds 1 ?_
      rw [rounds_succ]
      go_wp2_with fail
      go_returns
      exact ⟨ret_bool (by rw [HR.out]), h0.bel⟩
    · obtain ⟨c0, c1, c2, c3, c4, c5, c6, c7⟩ := h0.all
      by_cases hi : z = true ∧ f = 0
      case neg =>
        have HR : Hid (P = false) := by unfold Hid; rw [← hP]; exact rr_img (fun h => h.elim (fun e => absurd e (by decide)) (fun e => hi ⟨by rw [← hz]; exact e.1, e.2⟩))
        have hc : z = false ∨ (z = true ∧ (f == 0) = false ∧ ¬ f = 0) := by
          cases z with
          | false => exact .inl rfl
          | true => exact .inr ⟨rfl, by rw [beq_eq_false_iff_ne]; exact fun h => hi ⟨rfl, h⟩, fun h => hi ⟨rfl, h⟩⟩
        clear hP hz ht hi
        rcases hc with rfl | ⟨rfl, q2, q3⟩
        all_goals
          go_enter Tryd.func18, Tryd.ntmps18
          go_wp2_with fail
          go_returns
          exact ⟨ret_bool (by rw [HR.out]), h0.bel⟩
      obtain ⟨rfl, rfl⟩ := hi
      have HOK : Hid (ps.length ≤ 20 → ps.length = 0 → P = decide (m = 1)) := by
        intro h1 h2
        rw [← hP, rr_ok ht (.inr ⟨hz, rfl⟩) (by decide) h1 (.inr h2) (by rw [List.eq_nil_of_length_eq_zero h2]; rfl), if_neg (by decide)]
      by_cases hl0 : ps.length = 0
      case neg =>
        have HR : Hid (P = false) := by unfold Hid; rw [← hP]; exact rr_reg (fun h => h.elim (fun e => absurd e (by decide)) hl0)
        have hlJ : (0 : Int) < ps.length := by omega
        have hlK : 0 < ps.length := by omega
        clear hP hz ht HOK
        go_enter Tryd.func18, Tryd.ntmps18
        go_wp2_with fail
        go_returns
        exact ⟨ret_bool (by rw [HR.out]), h0.bel⟩
      have HR := Lib.hid (HOK.out (by omega) hl0)
      obtain rfl : ps = [] := List.eq_nil_of_length_eq_zero hl0
      clear hP hz ht hl0 HOK
      go_enter Tryd.func18, Tryd.ntmps18
      go_wp2_with fail
      refine wp_loop_rounds 1 ?_
      rw [rounds_succ]
      go_wp2_with fail
      go_returns
      exact ⟨ret_bool (by rw [HR.out, Bool.eq_iff_iff]; simp; omega), h0.bel⟩
    · obtain ⟨c0, c1, c2, c3, c4, c5, c6, c7⟩ := h0.all
      by_cases hi : z = true ∧ f = 0
      case neg =>
        have HR : Hid (P = false) := by unfold Hid; rw [← hP]; exact rr_img (fun h => h.elim (fun e => absurd e (by decide)) (fun e => hi ⟨by rw [← hz]; exact e.1, e.2⟩))
        have hc : z = false ∨ (z = true ∧ (f == 0) = false ∧ ¬ f = 0) := by
          cases z with
          | false => exact .inl rfl
          | true => exact .inr ⟨rfl, by rw [beq_eq_false_iff_ne]; exact fun h => hi ⟨rfl, h⟩, fun h => hi ⟨rfl, h⟩⟩
        clear hP hz ht hi
        rcases hc with rfl | ⟨rfl, q2, q3⟩
        all_goals
          go_enter Tryd.func18, Tryd.ntmps18
          go_wp2_with fail
          go_returns
          exact ⟨ret_bool (by rw [HR.out]), h0.bel⟩
      obtain ⟨rfl, rfl⟩ := hi
      have HOK : Hid (ps.length ≤ 20 → ps.all passOk = true → P = decide (m = 1)) := by
        intro h1 h2
        rw [← hP, rr_ok ht (.inr ⟨hz, rfl⟩) (by decide) h1 (.inl rfl) h2, if_neg (by decide)]
      have HBAD : Hid (ps.all passOk = false → P = false) := by
        intro h1
        rw [← hP, rr_pass h1]
      by_cases hl : ps.length ≤ 20
      case neg =>
        have HR : Hid (P = false) := by unfold Hid; rw [← hP]; exact rr_len hl
        have hlI : (20 : Int) < ps.length := by omega
        clear hP hz ht hl HOK HBAD
        go_enter Tryd.func18, Tryd.ntmps18
        go_wp2_with fail
        go_returns
        exact ⟨ret_bool (by rw [HR.out]), h0.bel⟩
      have hlI : ((20 : Int) < ps.length) = False := eq_false (by omega)
      have HL := Lib.hid hl
      clear hP hz ht hl
      go_enter Tryd.func18, Tryd.ntmps18
      go_wp2_with fail
      obtain ⟨i0, i1, i2, i3, i4, i5, i6, i7⟩ := h0.all
      go_loop [3] (fun iv' => ∃ k : Nat, k ≤ ps.length ∧ iv' = .int .i64 k ∧ Hid ((ps.take k).all passOk = true)) (fun iv' => ps.length - (intOf iv').toNat)
      case atStart => exact ⟨0, Nat.zero_le _, rfl, rfl⟩
      case round =>
        obtain ⟨k, hk, rfl, HA⟩ := hrel
        by_cases hlt : k < ps.length
        · obtain ⟨bb, off, hA, hbl, hcell⟩ := (hs.below h0.bel).int hlt
          subst hA
          have hltI : (k : Int) < ps.length := by omega
          have hk0 : (0 : Int) ≤ k := by omega
          obtain ⟨x, hx⟩ : ∃ x, ps[k] = x := ⟨_, rfl⟩
          rw [hx] at hcell
          unfold recv at hcell
          have HX := Lib.hid hx
          clear hx
          have hxc : x < 1 ∨ ((x < 1) = False ∧ 4 < x) ∨ ((x < 1) = False ∧ ((4 : Int) < x) = False) := by
            rcases Int.lt_or_le x 1 with h | h
            · exact .inl h
            · rcases Int.lt_or_le 4 x with h2 | h2
              · exact .inr (.inl ⟨eq_false (by omega), h2⟩)
              · exact .inr (.inr ⟨eq_false (by omega), eq_false (by omega)⟩)
          rcases hxc with h1 | ⟨h1, h2⟩ | ⟨h1, h2⟩
          · have HR : Hid (P = false) := HBAD.out (bad_pass ps k hlt (by rw [HX.out]; exact decide_eq_false (by omega)))
            go_wp2_with fail
            go_returns
            exact ⟨ret_bool (by rw [HR.out]), h0.bel⟩
          · have HR : Hid (P = false) := HBAD.out (bad_pass ps k hlt (by rw [HX.out]; exact decide_eq_false (by omega)))
            go_wp2_with fail
            go_returns
            exact ⟨ret_bool (by rw [HR.out]), h0.bel⟩
          · have HN : Hid ((ps.take (k + 1)).all passOk = true) := all_pass ps k hlt HA.out (by rw [HX.out]; exact decide_eq_true ⟨by have := of_eq_false h1; omega, by have := of_eq_false h2; omega⟩)
            go_wp2_with fail
            go_round
            case rel => exact ⟨k + 1, hlt, rfl, HN⟩
            case measure => simp [intOf]; omega
        · obtain rfl : k = ps.length := by omega
          have HD : Hid (ps.all passOk = true) := by
            have h := HA.out
            rw [List.take_length] at h
            exact h
          have HR := Lib.hid (HOK.out HL.out HD.out)
          go_wp2_with fail
          go_returns
          exact ⟨ret_bool (by rw [HR.out, Bool.eq_iff_iff]; simp; omega), h0.bel⟩
    · obtain ⟨c0, c1, c2, c3, c4, c5, c6, c7⟩ := h0.all
      by_cases hi : z = true ∧ f = 0
      case neg =>
        have HR : Hid (P = false) := by unfold Hid; rw [← hP]; exact rr_img (fun h => h.elim (fun e => absurd e (by decide)) (fun e => hi ⟨by rw [← hz]; exact e.1, e.2⟩))
        have hc : z = false ∨ (z = true ∧ (f == 0) = false ∧ ¬ f = 0) := by
          cases z with
          | false => exact .inl rfl
          | true => exact .inr ⟨rfl, by rw [beq_eq_false_iff_ne]; exact fun h => hi ⟨rfl, h⟩, fun h => hi ⟨rfl, h⟩⟩
        clear hP hz ht hi
        rcases hc with rfl | ⟨rfl, q2, q3⟩
        all_goals
          go_enter Tryd.func18, Tryd.ntmps18
          go_wp2_with fail
          go_returns
          exact ⟨ret_bool (by rw [HR.out]), h0.bel⟩
      obtain ⟨rfl, rfl⟩ := hi
      have HOK : Hid (ps.length ≤ 20 → ps.length = 0 → P = decide (m = 1)) := by
        intro h1 h2
        rw [← hP, rr_ok ht (.inr ⟨hz, rfl⟩) (by decide) h1 (.inr h2) (by rw [List.eq_nil_of_length_eq_zero h2]; rfl), if_neg (by decide)]
      by_cases hl0 : ps.length = 0
      case neg =>
        have HR : Hid (P = false) := by unfold Hid; rw [← hP]; exact rr_reg (fun h => h.elim (fun e => absurd e (by decide)) hl0)
        have hlJ : (0 : Int) < ps.length := by omega
        have hlK : 0 < ps.length := by omega
        clear hP hz ht HOK
        go_enter Tryd.func18, Tryd.ntmps18
        go_wp2_with fail
        go_returns
        exact ⟨ret_bool (by rw [HR.out]), h0.bel⟩
      have HR := Lib.hid (HOK.out (by omega) hl0)
      obtain rfl : ps = [] := List.eq_nil_of_length_eq_zero hl0
      clear hP hz ht hl0 HOK
      go_enter Tryd.func18, Tryd.ntmps18
      go_wp2_with fail
      refine wp_loop_rounds 1 ?_
      rw [rounds_succ]
      go_wp2_with fail
      go_returns
      exact ⟨ret_bool (by rw [HR.out, Bool.eq_iff_iff]; simp; omega), h0.bel⟩
    · obtain ⟨c0, c1, c2, c3, c4, c5, c6, c7⟩ := h0.all
      by_cases hi : z = true ∧ f = 0
      case neg =>
        have HR : Hid (P = false) := by unfold Hid; rw [← hP]; exact rr_img (fun h => h.elim (fun e => absurd e (by decide)) (fun e => hi ⟨by rw [← hz]; exact e.1, e.2⟩))
        have hc : z = false ∨ (z = true ∧ (f == 0) = false ∧ ¬ f = 0) := by
          cases z with
          | false => exact .inl rfl
          | true => exact .inr ⟨rfl, by rw [beq_eq_false_iff_ne]; exact fun h => hi ⟨rfl, h⟩, fun h => hi ⟨rfl, h⟩⟩
        clear hP hz ht hi
        rcases hc with rfl | ⟨rfl, q2, q3⟩
        all_goals
          go_enter Tryd.func18, Tryd.ntmps18
          go_wp2_with fail
          go_returns
          exact ⟨ret_bool (by rw [HR.out]), h0.bel⟩
      obtain ⟨rfl, rfl⟩ := hi
      have HOK : Hid (ps.length ≤ 20 → ps.length = 0 → P = decide (m = 1)) := by
        intro h1 h2
        rw [← hP, rr_ok ht (.inr ⟨hz, rfl⟩) (by decide) h1 (.inr h2) (by rw [List.eq_nil_of_length_eq_zero h2]; rfl), if_neg (by decide)]
      by_cases hl0 : ps.length = 0
      case neg =>
        have HR : Hid (P = false) := by unfold Hid; rw [← hP]; exact rr_reg (fun h => h.elim (fun e => absurd e (by decide)) hl0)
        have hlJ : (0 : Int) < ps.length := by omega
        have hlK : 0 < ps.length := by omega
        clear hP hz ht HOK
        go_enter Tryd.func18, Tryd.ntmps18
        go_wp2_with fail
        go_returns
        exact ⟨ret_bool (by rw [HR.out]), h0.bel⟩
      have HR := Lib.hid (HOK.out (by omega) hl0)
      obtain rfl : ps = [] := List.eq_nil_of_length_eq_zero hl0
      clear hP hz ht hl0 HOK
      go_enter Tryd.func18, Tryd.ntmps18
      go_wp2_with fail
      refine wp_loop_rounds 1 ?_
      rw [rounds_succ]
      go_wp2_with fail
      go_returns
      exact ⟨ret_bool (by rw [HR.out, Bool.eq_iff_iff]; simp; omega), h0.bel⟩
    · obtain ⟨c0, c1, c2, c3, c4, c5, c6, c7⟩ := h0.all
      by_cases hi : z = true ∧ f = 0
      case neg =>
        have HR : Hid (P = false) := by unfold Hid; rw [← hP]; exact rr_img (fun h => h.elim (fun e => absurd e (by decide)) (fun e => hi ⟨by rw [← hz]; exact e.1, e.2⟩))
        have hc : z = false ∨ (z = true ∧ (f == 0) = false ∧ ¬ f = 0) := by
          cases z with
          | false => exact .inl rfl
          | true => exact .inr ⟨rfl, by rw [beq_eq_false_iff_ne]; exact fun h => hi ⟨rfl, h⟩, fun h => hi ⟨rfl, h⟩⟩
        clear hP hz ht hi
        rcases hc with rfl | ⟨rfl, q2, q3⟩
        all_goals
          go_enter Tryd.func18, Tryd.ntmps18
          go_wp2_with fail
          go_returns
          exact ⟨ret_bool (by rw [HR.out]), h0.bel⟩
      obtain ⟨rfl, rfl⟩ := hi
      have HOK : Hid (ps.length ≤ 20 → ps.length = 0 → P = true) := by
        intro h1 h2
        rw [← hP, rr_ok ht (.inr ⟨hz, rfl⟩) (by decide) h1 (.inr h2) (by rw [List.eq_nil_of_length_eq_zero h2]; rfl), if_pos (.inr rfl)]
        exact decide_eq_true HM20.out
      by_cases hl0 : ps.length = 0
      case neg =>
        have HR : Hid (P = false) := by unfold Hid; rw [← hP]; exact rr_reg (fun h => h.elim (fun e => absurd e (by decide)) hl0)
        have hlJ : (0 : Int) < ps.length := by omega
        have hlK : 0 < ps.length := by omega
        clear hP hz ht HOK
        go_enter Tryd.func18, Tryd.ntmps18
        go_wp2_with fail
        go_returns
        exact ⟨ret_bool (by rw [HR.out]), h0.bel⟩
      have HR := Lib.hid (HOK.out (by omega) hl0)
      obtain rfl : ps = [] := List.eq_nil_of_length_eq_zero hl0
      clear hP hz ht hl0 HOK
      go_enter Tryd.func18, Tryd.ntmps18
      go_wp2_with fail
      refine wp_loop_rounds 1 ?_
      rw [rounds_succ]
      go_wp2_with fail
      go_returns
      exact ⟨ret_bool (by rw [HR.out]), h0.bel⟩
end Go.Proofs.YtdkkomcokefkhaaDoor
