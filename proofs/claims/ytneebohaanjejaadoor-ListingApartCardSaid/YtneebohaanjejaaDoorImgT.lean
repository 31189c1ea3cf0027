/- Layer 8: the document's 'Same'; walked. -/
import Derived.Test.YtneebohaanjejaaDoorImgS
namespace Go.Proofs.YtneebohaanjejaaDoor
open Go.RowKit

set_option maxHeartbeats 1000000 in
theorem refI_Same (xs ys : List UInt32) (A B : Option Addr) (c1 c2 : Nat) (d1 d2 : Int) (w : World) (hx : Sl w w.heap.size A xs.length (xs.map wv)) (hy : Sl w w.heap.size B ys.length (ys.map wv)) (hn : xs.length ≤ 1000000000000) :
    Calls Tryd.prog 28 #[.agg #[.slice A xs.length c1, .int .i64 d1], .agg #[.slice B ys.length c2, .int .i64 d2]] w fun e w' => e = .returned (.bool (sameB xs ys d1 d2)) ∧ Below w.heap.size w w' := by
  by_cases hd : d1 = d2
  · have hqd : (d1 != d2) = false := by simp [hd]
    have HD := Lib.hid hd
    clear hd
    by_cases hl : xs.length = ys.length
    · have hne : ((xs.length : Int) != ys.length) = false := by rw [bne_eq_false_iff_eq]; omega
      have HL := Lib.hid hl
      clear hl
      go_enter Tryd.func28, Tryd.ntmps28
      go_wp2_with fail
      have hB0 : Below w.heap.size w ((w.alloc (.cells #[.slice A xs.length c1, .int .i64 d1] 25)).alloc (.cells #[.slice B ys.length c2, .int .i64 d2] 25)) := ((Below.refl _ w).alloc (Nat.le_refl _) _).alloc (by simp) _
      go_loopw [5] (fun i wr => ∃ k : Nat, k ≤ xs.length ∧ i = .int .i64 k ∧ Hid (xs.take k = ys.take k) ∧ Blk wr w.heap.size 25 #[.slice A xs.length c1, .int .i64 d1] ∧ Blk wr (w.heap.size + 1) 25 #[.slice B ys.length c2, .int .i64 d2] ∧ Below w.heap.size w wr) (fun i _ => xs.length - (intOf i).toNat)
      case atStart => exact ⟨0, Nat.zero_le _, rfl, rfl, (Blk.new w _ _).alloc _, by simpa using Blk.new (w.alloc (.cells #[.slice A xs.length c1, .int .i64 d1] 25)) 25 #[.slice B ys.length c2, .int .i64 d2], hB0⟩
      case round =>
        clear hB0
        obtain ⟨k, hk, rfl, hE, hMa, hMb, hbel⟩ := hrel
        have ma := hMa.cell 0
        have mb := hMb.cell 0
        by_cases hlt : k < xs.length
        · have hlt2 : k < ys.length := by have := HL.out; omega
          obtain ⟨b, off, rfl, hb, hc1⟩ := (hx.below hbel).word hlt
          obtain ⟨b2, off2, rfl, hb2, hc2⟩ := (hy.below hbel).word hlt2
          by_cases hEq : xs[k] = ys[k]
          · have hq : ((xs[k].toNat : Int) != ys[k].toNat) = false := by rw [bne_eq_false_iff_eq, hEq]
            have HQ := Lib.hid hEq
            clear hEq
            go_wp2_with fail
            go_quiet (fail)
            go_wp2_with fail
            go_roundw
            case rel => exact ⟨k + 1, by omega, by go_num, by unfold Hid; rw [List.take_succ_eq_append_getElem hlt, List.take_succ_eq_append_getElem hlt2, hE.out, HQ.out], hMa.drewN _, hMb.drewN _, below_drewN hbel _⟩
            case measure => simp [intOf]; omega
          · have hq : ((xs[k].toNat : Int) != ys[k].toNat) = true := by
              rw [bne_iff_ne]
              intro h
              exact hEq (UInt32.toNat_inj.1 (by omega))
            have HQ := Lib.hid hEq
            clear hEq
            go_wp2_with fail
            go_quiet (fail)
            go_wp2_with fail
            go_returns
            refine ⟨ret_bool ?_, below_drewN hbel _⟩
            unfold sameB
            exact (decide_eq_false (fun h => HQ.out (by have h := h.2; subst h; rfl))).symm
        · have hT : xs = ys := by
            have h := hE.out
            rw [List.take_of_length_le (by omega), List.take_of_length_le (by have := HL.out; omega)] at h
            exact h
          have HT := Lib.hid hT
          clear hT
          go_wp2_with fail
          go_returns
          exact ⟨ret_bool (by unfold sameB; exact (decide_eq_true ⟨HD.out, HT.out⟩).symm), hbel⟩
    · have hne : ((xs.length : Int) != ys.length) = true := by rw [bne_iff_ne]; omega
      have HL := Lib.hid hl
      clear hl
      go_enter Tryd.func28, Tryd.ntmps28
      go_wp2_with fail
      go_returns
      exact ⟨ret_bool (by unfold sameB; exact (decide_eq_false (fun h => HL.out (by rw [h.2]))).symm), ((Below.refl _ w).alloc (Nat.le_refl _) _).alloc (by simp) _⟩
  · have hqd : (d1 != d2) = true := by simp [hd]
    have HD := Lib.hid hd
    clear hd
    go_enter Tryd.func28, Tryd.ntmps28
    go_wp2_with fail
    go_returns
    exact ⟨ret_bool (by unfold sameB; exact (decide_eq_false (fun h => HD.out h.1)).symm), ((Below.refl _ w).alloc (Nat.le_refl _) _).alloc (by simp) _⟩
end Go.Proofs.YtneebohaanjejaaDoor
