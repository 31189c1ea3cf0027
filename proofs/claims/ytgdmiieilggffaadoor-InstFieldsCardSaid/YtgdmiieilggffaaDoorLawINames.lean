/- The law InstNames, walked. -/
import Derived.Test.YtgdmiieilggffaaDoorInZ
import Derived.Test.YtgdmiieilggffaaDoorInP
import Derived.Test.YtgdmiieilggffaaDoorInH
namespace Go.Proofs.YtgdmiieilggffaaDoor
open Go.RowKit

theorem below_tail {a w w' : World} (h : Below a.heap.size a w) (hb : Below w.heap.size w w') : Below a.heap.size a w' := h.trans (hb.mono h.size)

set_option maxHeartbeats 2000000 in
theorem inames_walk (op : Int) (s : ByteArray) (w : World) (hp : Pow10 w) :
    Calls Tryd.prog 8 #[.int .i64 op, .string s] w fun e w' => e = .returned (.bool true) ∧ Below w.heap.size w w' := by
  by_cases hs : (100 : Int) < s.size
  · go_enter Tryd.func8, Tryd.ntmps8
    go_wp2_with fail
    refine (in_alive _ hp).mono ?_
    rintro e w1 ⟨rfl, hb1⟩
    go_wp2_with fail
    go_returns
    exact ⟨rfl, hb1⟩
  · obtain ⟨N, hN⟩ : ∃ N : ByteArray, (⟨(nameI op).toArray⟩ : ByteArray) = N := ⟨_, rfl⟩
    have hNl : N.data.toList = nameI op := by rw [← hN]
    obtain ⟨k, hk⟩ : ∃ k : Int, opI s.data.toList = k := ⟨_, rfl⟩
    have K1 := inst_Name op
    have K2 := ref_Name op
    have K3 := inst_Op s
    have K4 := ref_Op s
    rw [hN] at K1 K2
    rw [hk] at K3 K4
    have KI := Lib.hid K1
    have KR := Lib.hid K2
    have KO := Lib.hid K3
    have KP := Lib.hid K4
    have K5 : Hid (k ≠ 0 → ∀ W : World, Calls Tryd.prog 20 #[.int .i64 k] W fun e w' => e = .returned (.string s) ∧ Below W.heap.size W w') := by
      intro h0 W
      have h2 := inst_Name k W
      rw [show (⟨(nameI k).toArray⟩ : ByteArray) = s from ba_inj (by rw [← hk]; exact op_back (hk ▸ h0))] at h2
      exact h2
    have K6 : Hid (isOp op → ∀ W : World, Calls Tryd.prog 21 #[.string N] W fun e w' => e = .returned (.int .i64 op) ∧ Below W.heap.size W w') := by
      intro h0 W
      have h2 := inst_Op N W
      rw [hNl, name_back h0] at h2
      exact h2
    have hE : ¬ isOp op → N = ⟨#[]⟩ := by
      intro h
      apply ba_inj
      rw [hNl]
      unfold nameI
      rw [if_neg h]
    have hF : isOp op → (N.toList == []) = false := by
      intro h
      rw [beq_eq_false_iff_ne, Lib.toList_data, hNl]
      exact (name_known op).2 h
    have hF2 : isOp op → N.toList.isEmpty = false := by
      intro h
      rw [Lib.toList_data, hNl]
      cases hh : nameI op with
      | nil => exact absurd hh ((name_known op).2 h)
      | cons => rfl
    clear K1 K2 K3 K4 hN hk hNl
    by_cases hio : isOp op
    · have q1 := hF hio
      have q2 := hF2 hio
      have K6' := Lib.hid (K6.out hio)
      clear hE hF hF2 K6 hio
      by_cases hk0 : k = 0
      · have q3 : (k == 0) = true := by rw [beq_iff_eq]; exact hk0
        clear hk0 K5
        go_enter Tryd.func8, Tryd.ntmps8
        go_wp2_with fail
        refine (in_alive _ hp).mono ?_
        rintro e w1 ⟨rfl, b1⟩
        go_wp2_with fail
        refine (KI.out _).mono ?_
        rintro e w2 ⟨rfl, hb2⟩
        have b2 := below_tail b1 hb2
        clear hb2 b1
        go_wp2_with fail
        refine (KO.out _).mono ?_
        rintro e w3 ⟨rfl, hb3⟩
        have b3 := below_tail b2 hb3
        clear hb3 b2
        go_wp2_with fail
        refine (KR.out _).mono ?_
        rintro e w9 ⟨rfl, rfl⟩
        go_wp2_with fail
        refine (KP.out _).mono ?_
        rintro e w10 ⟨rfl, rfl⟩
        go_wp2_with fail
        refine (K6'.out _).mono ?_
        rintro e w4 ⟨rfl, hb4⟩
        have b4 := below_tail b3 hb4
        clear hb4 b3
        go_wp2_with fail
        go_returns
        exact ⟨rfl, b4⟩
      · have q3 : (k == 0) = false := by rw [beq_eq_false_iff_ne]; exact hk0
        have K5' := Lib.hid (K5.out hk0)
        clear hk0 K5
        go_enter Tryd.func8, Tryd.ntmps8
        go_wp2_with fail
        refine (in_alive _ hp).mono ?_
        rintro e w1 ⟨rfl, b1⟩
        go_wp2_with fail
        refine (KI.out _).mono ?_
        rintro e w2 ⟨rfl, hb2⟩
        have b2 := below_tail b1 hb2
        clear hb2 b1
        go_wp2_with fail
        refine (KO.out _).mono ?_
        rintro e w3 ⟨rfl, hb3⟩
        have b3 := below_tail b2 hb3
        clear hb3 b2
        go_wp2_with fail
        refine (KR.out _).mono ?_
        rintro e w9 ⟨rfl, rfl⟩
        go_wp2_with fail
        refine (KP.out _).mono ?_
        rintro e w10 ⟨rfl, rfl⟩
        go_wp2_with fail
        refine (K6'.out _).mono ?_
        rintro e w4 ⟨rfl, hb4⟩
        have b4 := below_tail b3 hb4
        clear hb4 b3
        go_wp2_with fail
        refine (K5'.out _).mono ?_
        rintro e w5 ⟨rfl, hb5⟩
        have b5 := below_tail b4 hb5
        clear hb5 b4
        go_wp2_with fail
        go_returns
        exact ⟨rfl, b5⟩
    · have q1 := hE hio
      subst q1
      clear hE hF hF2 K6 hio
      by_cases hk0 : k = 0
      · have q3 : (k == 0) = true := by rw [beq_iff_eq]; exact hk0
        clear hk0 K5
        go_enter Tryd.func8, Tryd.ntmps8
        go_wp2_with fail
        refine (in_alive _ hp).mono ?_
        rintro e w1 ⟨rfl, b1⟩
        go_wp2_with fail
        refine (KI.out _).mono ?_
        rintro e w2 ⟨rfl, hb2⟩
        have b2 := below_tail b1 hb2
        clear hb2 b1
        go_wp2_with fail
        refine (KO.out _).mono ?_
        rintro e w3 ⟨rfl, hb3⟩
        have b3 := below_tail b2 hb3
        clear hb3 b2
        go_wp2_with fail
        refine (KR.out _).mono ?_
        rintro e w9 ⟨rfl, rfl⟩
        go_wp2_with fail
        refine (KP.out _).mono ?_
        rintro e w10 ⟨rfl, rfl⟩
        go_wp2_with fail
        go_returns
        exact ⟨rfl, b3⟩
      · have q3 : (k == 0) = false := by rw [beq_eq_false_iff_ne]; exact hk0
        have K5' := Lib.hid (K5.out hk0)
        clear hk0 K5
        go_enter Tryd.func8, Tryd.ntmps8
        go_wp2_with fail
        refine (in_alive _ hp).mono ?_
        rintro e w1 ⟨rfl, b1⟩
        go_wp2_with fail
        refine (KI.out _).mono ?_
        rintro e w2 ⟨rfl, hb2⟩
        have b2 := below_tail b1 hb2
        clear hb2 b1
        go_wp2_with fail
        refine (KO.out _).mono ?_
        rintro e w3 ⟨rfl, hb3⟩
        have b3 := below_tail b2 hb3
        clear hb3 b2
        go_wp2_with fail
        refine (KR.out _).mono ?_
        rintro e w9 ⟨rfl, rfl⟩
        go_wp2_with fail
        refine (KP.out _).mono ?_
        rintro e w10 ⟨rfl, rfl⟩
        go_wp2_with fail
        refine (K5'.out _).mono ?_
        rintro e w4 ⟨rfl, hb4⟩
        have b4 := below_tail b3 hb4
        clear hb4 b3
        go_wp2_with fail
        go_returns
        exact ⟨rfl, b4⟩
end Go.Proofs.YtgdmiieilggffaaDoor
