/- The law InstCounts, walked. -/
import Derived.Test.YtgdmiieilggffaaDoorLawINames
namespace Go.Proofs.YtgdmiieilggffaaDoor
open Go.RowKit

theorem nm_ne (i : Nat) (h1 : 1 ≤ i) (h2 : i ≤ 27) (N : ByteArray) (hN : N.data.toList = nameI (i : Int)) : (N.toList == []) = false ∧ N.toList.isEmpty = false := by
  have h3 := name_ne i (by omega) h1
  constructor
  · rw [beq_eq_false_iff_ne, Lib.toList_data, hN]; exact h3
  · rw [Lib.toList_data, hN]
    cases hh : nameI (i : Int) with
    | nil => exact absurd hh h3
    | cons => rfl

set_option maxHeartbeats 2000000 in
theorem icounts_walk (op : Int) (w : World) (hp : Pow10 w) :
    Calls Tryd.prog 7 #[.int .i64 op] w fun e w' => e = .returned (.bool true) ∧ Below w.heap.size w w' := by
  have KA := Lib.hid (in_alive w hp)
  have KN : Hid (∀ i W, Calls Tryd.prog 20 #[.int .i64 i] W fun e w' => e = .returned (.string ⟨(nameI i).toArray⟩) ∧ Below W.heap.size W w') := inst_Name
  clear hp
  go_enter Tryd.func7, Tryd.ntmps7
  go_wp2_with fail
  refine KA.out.mono ?_
  rintro e w1 ⟨rfl, b1⟩
  go_wp2_with fail
  go_loopw [3, 4] (fun nv iv wr => ∃ i : Nat, 1 ≤ i ∧ i ≤ 28 ∧ iv = .int .i64 i ∧ nv = .int .i64 ((i : Int) - 1) ∧ Below w.heap.size w wr) (fun _ iv _ => 28 - (intOf iv).toNat)
  case atStart => exact ⟨1, by omega, by omega, rfl, rfl, b1⟩
  case round =>
    obtain ⟨i, hi1, hi2, rfl, rfl, hbel⟩ := hrel
    by_cases hlt : i ≤ 27
    · obtain ⟨N, hN⟩ : ∃ N : ByteArray, (⟨(nameI (i : Int)).toArray⟩ : ByteArray) = N := ⟨_, rfl⟩
      have hNl : Hid (N.data.toList = nameI (i : Int)) := by rw [← hN]; rfl
      have K := KN.out (i : Int)
      rw [hN] at K
      have KI := Lib.hid K
      obtain ⟨q1, q2⟩ := nm_ne i hi1 hlt N hNl.out
      have hltI : (i : Int) ≤ 27 := by omega
      clear K hN
      go_wp2_with fail
      go_loopw [5] (fun kv wr2 => ∃ k : Nat, 1 ≤ k ∧ k ≤ i ∧ kv = .int .i64 k ∧ Below w.heap.size w wr2) (fun kv _ => i - (intOf kv).toNat)
      case atStart => exact ⟨1, by omega, hi1, rfl, hbel⟩
      case round =>
        obtain ⟨k, hk1, hk2, rfl, hbel2⟩ := hrel
        by_cases hkl : k < i
        · obtain ⟨M, hM⟩ : ∃ M : ByteArray, (⟨(nameI (k : Int)).toArray⟩ : ByteArray) = M := ⟨_, rfl⟩
          have K := KN.out (k : Int)
          rw [hM] at K
          have KK := Lib.hid K
          have hMl : M.data.toList = nameI (k : Int) := by rw [← hM]
          have hne := str_ne (show N ≠ M from fun e => by
            have h9 := name_apart i (by omega) hi1 k (by omega) hk1 (by rw [← hNl.out, e, hMl])
            omega)
          have hklI : (k : Int) < i := by omega
          clear K hM hMl
          go_wp2_with fail
          refine (KI.out _).mono ?_
          rintro e w2 ⟨rfl, hb2⟩
          have b2 := below_tail hbel2 hb2
          go_wp2_with fail
          refine (KK.out _).mono ?_
          rintro e w3 ⟨rfl, hb3⟩
          have b3 := below_tail b2 hb3
          clear hb2 hb3
          go_wp2_with fail
          go_roundw
          case rel => exact ⟨k + 1, by omega, hkl, rfl, b3⟩
          case measure => simp [intOf]; omega
        · obtain rfl : k = i := by omega
          go_wp2_with fail
          refine (KI.out _).mono ?_
          rintro e w2 ⟨rfl, hb2⟩
          have b2 := below_tail hbel2 hb2
          clear hb2
          go_wp2_with fail
          go_roundw
          case rel => exact ⟨k + 1, by omega, by omega, rfl, by simp, b2⟩
          case measure => simp [intOf]; omega
    · obtain rfl : i = 28 := by omega
      obtain ⟨N, hN⟩ : ∃ N : ByteArray, (⟨(nameI op).toArray⟩ : ByteArray) = N := ⟨_, rfl⟩
      have hNl : N.data.toList = nameI op := by rw [← hN]
      have K := KN.out op
      rw [hN] at K
      have KI := Lib.hid K
      clear K hN
      by_cases hio : isOp op
      · obtain ⟨k, k1, k2, rfl⟩ := op_cases op hio
        obtain ⟨q1, q2⟩ := nm_ne k k1 k2 N hNl
        have g1 : (1 : Int) ≤ k := by omega
        have g2 : (k : Int) ≤ 27 := by omega
        clear hio hNl
        go_wp2_with fail
        refine (KI.out _).mono ?_
        rintro e w2 ⟨rfl, hb2⟩
        have b2 := below_tail hbel hb2
        go_wp2_with fail
        go_returns
        exact ⟨rfl, b2⟩
      · obtain rfl : N = ⟨#[]⟩ := ba_inj (by rw [hNl]; unfold nameI; rw [if_neg hio])
        have hc : op < 1 ∨ (1 ≤ op ∧ (op ≤ 27) = False) := by
          unfold isOp at hio
          rcases Int.lt_or_le op 1 with h | h
          · exact .inl h
          · exact .inr ⟨h, eq_false (by omega)⟩
        clear hio hNl
        rcases hc with h1 | ⟨h1, h2⟩
        all_goals
          go_wp2_with fail
          refine (KI.out _).mono ?_
          rintro e w2 ⟨rfl, hb2⟩
          have b2 := below_tail hbel hb2
          go_wp2_with fail
          go_returns
          exact ⟨rfl, b2⟩
end Go.Proofs.YtgdmiieilggffaaDoor
