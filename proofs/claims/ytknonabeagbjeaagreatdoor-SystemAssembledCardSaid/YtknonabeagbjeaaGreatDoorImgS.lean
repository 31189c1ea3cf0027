/- Layer 8: alike, and the document's reading; walked. -/
import Derived.Test.YtknonabeagbjeaaGreatDoorInfo
import Derived.Test.YtknonabeagbjeaaGreatDoorPb
import Derived.Test.YtknonabeagbjeaaGreatDoorImgR
namespace Go.Proofs.YtknonabeagbjeaaGreatDoor
open Go.RowKit

set_option maxHeartbeats 400000 in
theorem slices_Equal (xs ys : List UInt32) (A B : Option Addr) (c d : Nat) (w : World) (hx : Sl w w.heap.size A xs.length (xs.map wv)) (hy : Sl w w.heap.size B ys.length (ys.map wv)) (hn : xs.length ≤ 1000000000000) :
    Calls Tryz.prog 17 #[.slice A xs.length c, .slice B ys.length d] w fun e w' => e = .returned (.bool (decide (xs = ys))) ∧ Below w.heap.size w w' := by
  by_cases hl : xs.length = ys.length
  · have hne : ((xs.length : Int) != ys.length) = false := by rw [bne_eq_false_iff_eq]; omega
    have HL := Lib.hid hl
    clear hl
    go_enter Tryz.func17, Tryz.ntmps17
    go_wp2
    go_loopw [13] (fun i wr => ∃ k : Nat, k ≤ xs.length ∧ i = .int .i64 k ∧ Hid (xs.take k = ys.take k) ∧ Below w.heap.size w wr) (fun i _ => xs.length - (intOf i).toNat)
    case atStart => exact ⟨0, Nat.zero_le _, rfl, rfl, Below.refl _ _⟩
    case round =>
      obtain ⟨k, hk, rfl, hE, hbel⟩ := hrel
      by_cases hlt : k < xs.length
      · have hlt2 : k < ys.length := by have := HL.out; omega
        obtain ⟨b, off, rfl, hb, hc1⟩ := (hx.below hbel).word hlt
        obtain ⟨b2, off2, rfl, hb2, hc2⟩ := (hy.below hbel).word hlt2
        by_cases hEq : xs[k] = ys[k]
        · have hq : ((xs[k].toNat : Int) != ys[k].toNat) = false := by rw [bne_eq_false_iff_eq, hEq]
          have HQ := Lib.hid hEq
          clear hEq
          go_wp2
          go_quiet (fail)
          go_wp2
          go_roundw
          case rel => exact ⟨k + 1, by omega, by go_num, by unfold Hid; rw [List.take_succ_eq_append_getElem hlt, List.take_succ_eq_append_getElem hlt2, hE.out, HQ.out], below_drewN hbel _⟩
          case measure => simp [intOf]; omega
        · have hq : ((xs[k].toNat : Int) != ys[k].toNat) = true := by
            rw [bne_iff_ne]
            intro h
            exact hEq (UInt32.toNat_inj.1 (by omega))
          have HQ := Lib.hid hEq
          clear hEq
          go_wp2
          go_quiet (fail)
          go_wp2
          go_returns
          refine ⟨ret_bool ?_, below_drewN hbel _⟩
          rw [decide_eq_false]
          intro h
          exact HQ.out (by subst h; rfl)
      · have hT : xs = ys := by
          have h := hE.out
          rw [List.take_of_length_le (by omega), List.take_of_length_le (by have := HL.out; omega)] at h
          exact h
        have HT := Lib.hid hT
        clear hT
        go_wp2
        go_returns
        exact ⟨ret_bool (by rw [decide_eq_true HT.out]), hbel⟩
  · have hne : ((xs.length : Int) != ys.length) = true := by rw [bne_iff_ne]; omega
    have HL := Lib.hid hl
    clear hl
    go_enter Tryz.func17, Tryz.ntmps17
    go_wp2
    go_returns
    exact ⟨ret_bool (by rw [decide_eq_false (fun h => HL.out (by rw [h]))]), Below.refl _ _⟩

def sameB (xs ys : List UInt32) (d1 d2 : Int) : Bool := decide (d1 = d2 ∧ xs = ys)
theorem sl_agg {w : World} {A : Option Addr} {n c : Nat} {d : Int} {t : TypeId} : (w.alloc (.cells #[.slice A n c, .int .i64 d] t)).cell? ⟨w.heap.size, 0, none⟩ = some (.slice A n c) := World.cell?_alloc_mark _ _ _ _ _
theorem image_Same (xs ys : List UInt32) (A B : Option Addr) (c1 c2 : Nat) (d1 d2 : Int) (w : World) (hx : Sl w w.heap.size A xs.length (xs.map wv)) (hy : Sl w w.heap.size B ys.length (ys.map wv)) (hn : xs.length ≤ 1000000000000) :
    Calls Tryz.prog 7 #[.agg #[.slice A xs.length c1, .int .i64 d1], .agg #[.slice B ys.length c2, .int .i64 d2]] w fun e w' => e = .returned (.bool (sameB xs ys d1 d2)) ∧ Below w.heap.size w w' := by
  by_cases hd : d1 = d2
  · have hq : (d1 == d2) = true := by simp [hd]
    have HD := Lib.hid hd
    clear hd
    go_enter Tryz.func7, Tryz.ntmps7
    go_wp2_with fail
    have hBB : Below w.heap.size w ((w.alloc (.cells #[.slice A xs.length c1, .int .i64 d1] 24)).alloc (.cells #[.slice B ys.length c2, .int .i64 d2] 24)) := ((Below.refl _ w).alloc (Nat.le_refl _) _).alloc (by simp) _
    refine (slices_Equal xs ys _ _ _ _ _ ((hx.below hBB).more hBB.size) ((hy.below hBB).more hBB.size) hn).mono ?_
    rintro e w' ⟨rfl, hb⟩
    go_wp2_with fail
    go_returns
    exact ⟨ret_bool (by unfold sameB; exact decide_eq_decide.2 ⟨fun h => ⟨HD.out, h⟩, fun h => h.2⟩), hBB.trans (hb.mono hBB.size)⟩
  · have hq : (d1 == d2) = false := by simp [hd]
    have HD := Lib.hid hd
    clear hd
    go_enter Tryz.func7, Tryz.ntmps7
    go_wp2_with fail
    go_returns
    exact ⟨ret_bool (by unfold sameB; exact (decide_eq_false (fun h => HD.out h.1)).symm), ((Below.refl _ w).alloc (Nat.le_refl _) _).alloc (by simp) _⟩

theorem take8 (l : List UInt8) (k : Nat) (h : k + 8 ≤ l.length) : (l.drop k).take 8 = [l[k], l[k + 1], l[k + 2], l[k + 3], l[k + 4], l[k + 5], l[k + 6], l[k + 7]] := by
  rw [List.drop_eq_getElem_cons (by omega), List.drop_eq_getElem_cons (by omega), List.drop_eq_getElem_cons (by omega), List.drop_eq_getElem_cons (by omega), List.drop_eq_getElem_cons (by omega), List.drop_eq_getElem_cons (by omega), List.drop_eq_getElem_cons (by omega), List.drop_eq_getElem_cons (by omega)]
  rfl
theorem take4 (l : List UInt8) (h : 4 ≤ l.length) : l.take 4 = [l[0], l[1], l[2], l[3]] := by
  match l, h with
  | a :: b :: c :: d :: r, _ => rfl

end Go.Proofs.YtknonabeagbjeaaGreatDoor
