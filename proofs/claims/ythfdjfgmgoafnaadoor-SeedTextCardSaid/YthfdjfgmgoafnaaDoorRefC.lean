/- Layer 1, the document's answer: shift, turn, bits, walked. -/
/- Layer 1, the document's answer: bit by bit, walked. -/
/- Layer 1, the document's answer: what an operation makes of two words, walked. -/
import Derived.Test.YthfdjfgmgoafnaaDoorChecked
import Derived.Test.YthfdjfgmgoafnaaDoorHxA
import Derived.Test.YthfdjfgmgoafnaaDoorPw
namespace Go.Proofs.YthfdjfgmgoafnaaDoor
open Go.RowKit

theorem ref_flag (ok : Bool) (w : World) :
    Calls Tryd.prog 89 #[.bool ok] w fun e w' => e = .returned (.int .u32 (if ok then 1 else 0)) ∧ w = w' := by
  cases ok
  all_goals
    go_enter Tryd.func89, Tryd.ntmps89
    go_wp2
    go_returns
    exact ⟨rfl, rfl⟩

theorem ref_shift (op : Int) (a b : UInt32) (w : World) :
    Calls Tryd.prog 88 #[.int .i64 op, .int .u32 a.toNat, .int .u32 b.toNat] w fun e w' => e = .returned (.int .u32 (shiftW op a b).toNat) ∧ w = w' := by
  have ha := a.toNat_lt
  have hb := b.toNat_lt
  by_cases h : 31 < b.toNat
  · go_enter Tryd.func88, Tryd.ntmps88
    go_wp2
    go_returns
    exact ⟨ret_int (by unfold shiftW; rw [if_pos h]; rfl), rfl⟩
  · obtain ⟨B, hB⟩ : ∃ B, b.toNat = B := ⟨_, rfl⟩
    have HB := Lib.hid hB
    rw [hB] at h hb ⊢
    clear hB
    have h32 : B ≤ 31 := by omega
    by_cases hop : op = 12
    · subst hop
      go_enter Tryd.func88, Tryd.ntmps88
      go_wp2
      go_loop [7, 8] (fun x i => ∃ j m : Nat, j ≤ B ∧ i = .int .u32 j ∧ x = .int .u64 m ∧ m < 4294967296 ∧ Hid (m = shN true a.toNat j)) (fun _ i => B - (intOf i).toNat)
      case atStart => exact ⟨0, a.toNat, by omega, rfl, rfl, ha, (shN_zero true a).symm⟩
      case round =>
        obtain ⟨j, m, hj, rfl, rfl, hlt, hr⟩ := hrel
        by_cases hjk : j < B
        · go_wp2
          go_round
          case rel => exact ⟨j + 1, 2 * m % 4294967296, by omega, by go_num, by go_num, by omega, by rw [hr.out]; exact (shN_up a.toNat j).symm⟩
          case measure => simp [intOf]; omega
        · go_wp2
          go_returns
          refine ⟨ret_int ?_, rfl⟩
          rw [hr.out, show j = B by omega]
          unfold shiftW shN
          rw [HB.out, if_neg h, if_pos rfl, if_pos rfl]
          rw [UInt32.toNat_ofNat']
    · have hopB : (op == 12) = false := by simpa using hop
      have HO := Lib.hid hop; clear hop
      go_enter Tryd.func88, Tryd.ntmps88
      go_wp2
      go_loop [7, 8] (fun x i => ∃ j m : Nat, j ≤ B ∧ i = .int .u32 j ∧ x = .int .u64 m ∧ m < 4294967296 ∧ Hid (m = shN false a.toNat j)) (fun _ i => B - (intOf i).toNat)
      case atStart => exact ⟨0, a.toNat, by omega, rfl, rfl, ha, (shN_zero false a).symm⟩
      case round =>
        obtain ⟨j, m, hj, rfl, rfl, hlt, hr⟩ := hrel
        by_cases hjk : j < B
        · go_wp2
          go_round
          case rel => exact ⟨j + 1, m / 2, by omega, by go_num, by go_num, by omega, by rw [hr.out]; exact (shN_down a.toNat j).symm⟩
          case measure => simp [intOf]; omega
        · go_wp2
          go_returns
          refine ⟨ret_int ?_, rfl⟩
          rw [hr.out, show j = B by omega]
          unfold shiftW shN
          rw [HB.out, if_neg h, if_neg HO.out, if_neg (by decide)]
          rw [UInt32.toNat_ofNat', Nat.mod_eq_of_lt (Nat.lt_of_le_of_lt (Nat.div_le_self _ _) ha)]
end Go.Proofs.YthfdjfgmgoafnaaDoor
namespace Go.Proofs.YthfdjfgmgoafnaaDoor
open Go.RowKit

set_option maxHeartbeats 400000 in
theorem ref_Bits (a : UInt32) (w : World) :
    Calls Tryd.prog 90 #[.int .u32 a.toNat] w fun e w' => (∃ v, e = .returned v ∧ w'.ownsRow w.heap.size 3 1 v 32 ((List.range 32).map fun i => .int .i64 (bitN a.toNat i))) ∧ Below w.heap.size w w' := by
  have ha := a.toNat_lt
  go_enter Tryd.func90, Tryd.ntmps90
  go_wp2
  go_loopw [0, 3, 4] (fun x v i wr => ∃ k m : Nat, k ≤ 32 ∧ i = .int .i64 k ∧ x = .int .u32 m ∧ m < 4294967296 ∧ Hid (m = a.toNat / 2 ^ k) ∧ wr.ownsRow w.heap.size 3 1 v k ((List.range k).map fun i => .int .i64 (bitN a.toNat i)) ∧ Below w.heap.size w wr) (fun _ _ i _ => 32 - (intOf i).toNat)
  case atStart => exact ⟨0, a.toNat, by omega, rfl, rfl, ha, by unfold Hid; omega, World.ownsRow_nil _ _ _ _, Below.refl _ _⟩
  case round =>
    obtain ⟨k, m, hk, rfl, rfl, hm, hr, hown, hbel⟩ := hrel
    have hsz := hbel.size
    by_cases hlt : k < 32
    · have HB : Hid (((m : Int) % 2) = (bitN a.toNat k : Nat)) := by unfold Hid bitN; rw [hr.out]; omega
      go_wp2_with (at_builtin; refine wpList_append_new rfl _ _ 54 rfl w.heap.size (.int .i64 0) 1 8 Tryd.underlying54 info_int rfl (by decide) _ k _ rfl hown 1 rfl rfl (by simp [Value.oneCell']) (by omega) (by omega) hsz ?_; intro v1 w1 hown1 hb1 _)
      go_roundw
      case rel =>
        refine ⟨k + 1, m / 2, by omega, by go_num, by go_num, by omega, ?_, ?_, hbel.trans hb1⟩
        · unfold Hid; rw [hr.out, Nat.pow_succ, Nat.div_div_eq_div_mul]
        · rw [HB.out] at hown1
          rw [List.range_succ, List.map_append]
          exact hown1
      case measure => simp [intOf]; omega
    · obtain rfl : k = 32 := by omega
      go_wp2
      go_returns
      exact ⟨⟨_, rfl, hown⟩, hbel⟩

theorem ref_Of (x : UInt32) (A : Option Addr) (c : Nat) (w : World) (hx : Sl w w.heap.size A 32 ((List.range 32).map fun i => .int .i64 (bitN x.toNat i))) :
    Calls Tryd.prog 91 #[.slice A 32 c] w fun e w' => e = .returned (.int .u32 x.toNat) ∧ w = w' := by
  have hx32 := x.toNat_lt
  go_enter Tryd.func91, Tryd.ntmps91
  go_wp2
  go_loop [3, 4] (fun n i => ∃ k m : Nat, k ≤ 32 ∧ i = .int .i64 (31 - (k : Int)) ∧ n = .int .u64 m ∧ m < 4294967296 ∧ Hid (m = x.toNat / 2 ^ (32 - k))) (fun _ i => (intOf i + 1).toNat)
  case atStart => exact ⟨0, 0, by omega, rfl, rfl, by omega, by unfold Hid; omega⟩
  case round =>
    obtain ⟨k, m, hk, rfl, rfl, hm, hr⟩ := hrel
    by_cases hlt : k < 32
    · obtain ⟨b, off, rfl, hb, hcell⟩ := hx.get (k := 31 - k) (by omega)
      have hb2 := bitN_lt x.toNat (31 - k)
      have HS := Lib.hid (top_step x.toNat k hlt)
      have H0 : (0 : Int) ≤ 31 - (k : Int) := by omega
      have Ht : ((31 - (k : Int))).toNat = 31 - k := by omega
      rw [← hr.out] at HS
      have h4 : 2 * m + bitN x.toNat (31 - k) < 4294967296 := by
        rw [HS.out]
        exact Nat.lt_of_le_of_lt (Nat.div_le_self _ _) hx32
      generalize bitN x.toNat (31 - k) = bt at *
      go_wp2
      go_round
      case rel => exact ⟨k + 1, 2 * m + bt, by omega, by go_num, by go_num, h4, HS⟩
      case measure => simp [intOf]; omega
    · obtain rfl : k = 32 := by omega
      go_wp2
      go_returns
      exact ⟨ret_int (by have := hr.out; rw [Nat.sub_self, Nat.pow_zero, Nat.div_one] at this; omega), rfl⟩

def bothRow (op : Int) (a b k i : Nat) : Value := .int .i64 (if i < k then cmb op (bitN a i) (bitN b i) else bitN a i : Nat)
theorem bothRow_at (op : Int) (a b k : Nat) : bothRow op a b k k = .int .i64 (bitN a k) := by unfold bothRow; rw [if_neg (by omega)]
theorem bothRow_step (op : Int) (a b k : Nat) : (fun i => if i = k then .int .i64 (cmb op (bitN a k) (bitN b k) : Nat) else bothRow op a b k i) = bothRow op a b (k + 1) := by
  funext i
  unfold bothRow
  by_cases h : i = k
  · subst h; rw [if_pos rfl, if_pos (by omega)]
  · rw [if_neg h]
    by_cases h2 : i < k
    · rw [if_pos h2, if_pos (by omega)]
    · rw [if_neg h2, if_neg (by omega)]
theorem bothRow_end (op : Int) (hop : op = 9 ∨ op = 10 ∨ op = 11) (a b : UInt32) : (List.range 32).map (bothRow op a.toNat b.toNat 32) = (List.range 32).map fun i => .int .i64 (bitN (bitsW op a b).toNat i) := by
  apply List.map_congr_left
  intro i hi
  unfold bothRow
  rw [if_pos (List.mem_range.1 hi), cmb_bits op hop]
theorem both_set {w : World} {B E g c : Nat} {op : Int} {a b k z : Nat} (h : w.ownsRow B E 1 (.slice (some ⟨g, 0, none⟩) 32 c) 32 ((List.range 32).map (bothRow op a b k))) (hk : k < 32) (hz : cmb op (bitN a k) (bitN b k) = z) :
    (w.setCell ⟨g, k, none⟩ (.int .i64 z)).ownsRow B E 1 (.slice (some ⟨g, 0, none⟩) 32 c) 32 ((List.range 32).map (bothRow op a b (k + 1))) := by
  have h1 := own_set h hk (.int .i64 z)
  rw [set_mapRange, ← hz, bothRow_step] at h1
  rw [← hz]
  exact h1
theorem both_set2 {w : World} {B E g c : Nat} {op : Int} {a b k z : Nat} {u : Value} (h : w.ownsRow B E 1 (.slice (some ⟨g, 0, none⟩) 32 c) 32 ((List.range 32).map (bothRow op a b k))) (hk : k < 32) (hz : cmb op (bitN a k) (bitN b k) = z) :
    ((w.setCell ⟨g, k, none⟩ u).setCell ⟨g, k, none⟩ (.int .i64 z)).ownsRow B E 1 (.slice (some ⟨g, 0, none⟩) 32 c) 32 ((List.range 32).map (bothRow op a b (k + 1))) := by
  have h1 := own_set (own_set h hk u) hk (.int .i64 z)
  rw [List.set_set, set_mapRange, ← hz, bothRow_step] at h1
  rw [← hz]
  exact h1

set_option maxHeartbeats 2000000 in
theorem ref_both (op : Int) (hop : op = 9 ∨ op = 10 ∨ op = 11) (a b : UInt32) (w : World) :
    Calls Tryd.prog 87 #[.int .i64 op, .int .u32 a.toNat, .int .u32 b.toNat] w fun e w' => e = .returned (.int .u32 (bitsW op a b).toNat) ∧ Below w.heap.size w w' := by
  have HE := Lib.hid (bothRow_end op hop a b)
  have HO := Lib.hid hop
  clear hop
  go_enter Tryd.func87, Tryd.ntmps87
  go_wp2_with fail
  refine (ref_Bits a _).mono ?_
  rintro e w1 ⟨⟨v1, rfl, hown1⟩, hb1⟩
  obtain ⟨g1, c1, rfl, hg1, hg1', hc1⟩ := own_form hown1 (by decide)
  go_wp2_with fail
  refine (ref_Bits b _).mono ?_
  rintro e w2 ⟨⟨v2, rfl, hown2⟩, hb2⟩
  have hown1 := own_below hown1 rfl hb2
  obtain ⟨g2, c2, rfl, hg2, hg2', hc2⟩ := own_form hown2 (by decide)
  go_wp2_with fail
  go_loopw [9] (fun i wr => ∃ k : Nat, k ≤ 32 ∧ i = .int .i64 k ∧ wr.ownsRow w.heap.size 3 1 (.slice (some ⟨g1, 0, none⟩) 32 c1) 32 ((List.range 32).map (bothRow op a.toNat b.toNat k)) ∧
    wr.ownsRow w1.heap.size 3 1 (.slice (some ⟨g2, 0, none⟩) 32 c2) 32 ((List.range 32).map fun i => .int .i64 (bitN b.toNat i)) ∧ Below w.heap.size w wr) (fun i _ => 32 - (intOf i).toNat)
  case atStart => exact ⟨0, by omega, rfl, hown1, hown2, hb1.trans (hb2.mono hb1.size)⟩
  case round =>
    clear hown1 hown2
    obtain ⟨k, hk, rfl, hown1, hown2, hbel⟩ := hrel
    by_cases hlt : k < 32
    · have hx := own_cell hown1 (get_mapRange 32 k _ hlt)
      have hxf := own_frozen hown1 k
      have hy := own_cell hown2 (get_mapRange 32 k _ hlt)
      rw [bothRow_at] at hx
      have hp := bitN_lt a.toNat k
      have hq := bitN_lt b.toNat k
      have hrow : ∀ z u, cmb op (bitN a.toNat k) (bitN b.toNat k) = z → _ := fun z u hz => both_set2 (u := u) hown1 hlt hz
      have hrow0 : ∀ z, cmb op (bitN a.toNat k) (bitN b.toNat k) = z → _ := fun z hz => both_set hown1 hlt hz
      have HR := Lib.hid hrow
      have HR0 := Lib.hid hrow0
      have HB := Lib.hid hown2
      have hg2a : g1 < w1.heap.size := hg1'
      clear hrow hrow0 hown1 hown2
      generalize bitN a.toNat k = p at *
      generalize bitN b.toNat k = q at *
      have hcase : (((p : Int) + q == 2) = true ∧ (op != 11) = true ∧ cmb op p q = 1) ∨ (((p : Int) + q == 2) = true ∧ (op != 11) = false ∧ ((p : Int) + q == 1) = false ∧ cmb op p q = 0) ∨
          (((p : Int) + q == 2) = false ∧ ((p : Int) + q == 1) = true ∧ (op != 9) = true ∧ cmb op p q = 1) ∨ (((p : Int) + q == 2) = false ∧ ((p : Int) + q == 1) = true ∧ (op != 9) = false ∧ cmb op p q = 0) ∨
          (((p : Int) + q == 2) = false ∧ ((p : Int) + q == 1) = false ∧ cmb op p q = 0) := by
        have hpc : p = 0 ∨ p = 1 := by omega
        have hqc : q = 0 ∨ q = 1 := by omega
        rcases HO.out with rfl | rfl | rfl <;> rcases hpc with rfl | rfl <;> rcases hqc with rfl | rfl <;> decide
      clear HE
      rcases hcase with ⟨t1, t2, hz⟩ | ⟨t1, t2, t3, hz⟩ | ⟨t1, t2, t3, hz⟩ | ⟨t1, t2, t3, hz⟩ | ⟨t1, t2, hz⟩
      all_goals have HZ := Lib.hid hz
      all_goals clear hz
      all_goals
        go_wp2
        go_quiet (fail)
        go_wp2
        go_roundw
        case rel => first
          | exact ⟨k + 1, by omega, by go_num, HR.out 1 _ HZ.out, ownsRow_setCell_below (ownsRow_setCell_below HB.out hg2a _) hg2a _, ((below_drewN hbel _).setCell (p := ⟨g1, k, none⟩) hg1 _).setCell (p := ⟨g1, k, none⟩) hg1 _⟩
          | exact ⟨k + 1, by omega, by go_num, HR0.out 0 HZ.out, ownsRow_setCell_below HB.out hg2a _, (below_drewN hbel _).setCell (p := ⟨g1, k, none⟩) hg1 _⟩
        case measure => simp [intOf]; omega
    · obtain rfl : k = 32 := by omega
      have hbsz := hbel.size
      obtain ⟨A, c, hA, _, _, hSl⟩ := Sl.of_own hown1
      injection hA with hA _ hc
      subst hA hc
      rw [HE.out] at hSl
      go_wp2_with fail
      refine (ref_Of (bitsW op a b) _ _ _ hSl).mono ?_
      rintro e w' ⟨rfl, rfl⟩
      go_wp2
      go_returns
      exact ⟨rfl, hbel⟩
end Go.Proofs.YthfdjfgmgoafnaaDoor
namespace Go.Proofs.YthfdjfgmgoafnaaDoor
open Go.RowKit

set_option maxHeartbeats 800000 in
set_option maxRecDepth 100000 in
theorem ref_Apply (op : Int) (a b : UInt32) (w : World) :
    Calls Tryd.prog 86 #[.int .i64 op, .int .u32 a.toNat, .int .u32 b.toNat] w fun e w' => e = .returned (.tuple #[.int .u32 (applyW op a b).1.toNat, .int .i64 (applyW op a b).2]) ∧ Below w.heap.size w w' := by
  have ha := a.toNat_lt
  have hb := b.toNat_lt
  by_cases hop : op = 9 ∨ op = 10 ∨ op = 11
  · have HO := Lib.hid hop
    have HE : Hid (applyW op a b = (bitsW op a b, 0)) := by rcases hop with rfl | rfl | rfl <;> rfl
    rcases hop with rfl | rfl | rfl
    all_goals
      go_enter Tryd.func86, Tryd.ntmps86
      go_wp2_with (go_at_call 87; refine (ref_both _ HO.out _ _ _).mono ?_; rintro e w' ⟨rfl, hb1⟩)
      go_returns
      exact ⟨by rw [HE.out]; rfl, hb1⟩
  · have h1 : (op == 9) = false := by simp; omega
    have h2 : (op == 10) = false := by simp; omega
    have h3 : (op == 11) = false := by simp; omega
    clear hop
    by_cases h0 : b.toNat = 0
    · have hz : ((b.toNat : Int) == 0) = true := by simp [h0]
      have H0 := Lib.hid h0
      clear h0
      go_enter Tryd.func86, Tryd.ntmps86
      go_wp2_with (first
        | (go_at_call 88; refine (ref_shift _ _ _ _).mono ?_; rintro e w' ⟨rfl, rfl⟩)
        | (go_at_call 89; refine (ref_flag _ _).mono ?_; rintro e w' ⟨rfl, rfl⟩))
      all_goals go_returns
      all_goals refine ⟨?_, Below.refl _ _⟩
      all_goals go_light
      all_goals (try have h0 := H0.out)
      all_goals first
        | (rename (op == 4) = true => hq
           obtain rfl : op = 4 := eq_of_beq hq
           exact ret_ints (w_add a b).symm rfl)
        | (rename (op == 5) = true => hq
           obtain rfl : op = 5 := eq_of_beq hq
           exact ret_ints (by rw [show (applyW 5 a b).1 = a - b from rfl, w_sub]; omega) rfl)
        | (rename (op == 6) = true => hq
           obtain rfl : op = 6 := eq_of_beq hq
           exact ret_ints (w_mul' a b) rfl)
        | (rename (op == 7) = true => hq
           obtain rfl : op = 7 := eq_of_beq hq
           exact ret_ints (by rw [show applyW 7 a b = divideW 7 a b from rfl]; unfold divideW; first | (rw [if_pos (by omega)]; rfl) | (rw [if_neg (by omega), if_pos rfl, w_div', IntKind.wrap_u64]; omega))
             (by rw [show applyW 7 a b = divideW 7 a b from rfl]; unfold divideW; first | rw [if_pos (by omega)] | rw [if_neg (by omega), if_pos rfl]))
        | (rename (op == 8) = true => hq
           obtain rfl : op = 8 := eq_of_beq hq
           exact ret_ints (by rw [show applyW 8 a b = divideW 8 a b from rfl]; unfold divideW; first | (rw [if_pos (by omega)]; rfl) | (rw [if_neg (by omega), if_neg (by decide), w_mod]; have hm1 := Int.emod_nonneg (a.toNat : Int) (show (b.toNat : Int) ≠ 0 by omega); have hm2 := Int.emod_lt_of_pos (a.toNat : Int) hz2; first | omega | (rw [IntKind.wrap_u64]; omega)))
             (by rw [show applyW 8 a b = divideW 8 a b from rfl]; unfold divideW; first | rw [if_pos (by omega)] | rw [if_neg (by omega), if_neg (by decide)]))
        | (rename (op == 12) = true => hq
           obtain rfl : op = 12 := eq_of_beq hq
           exact ret_ints rfl rfl)
        | (rename (op == 13) = true => hq
           obtain rfl : op = 13 := eq_of_beq hq
           exact ret_ints rfl rfl)
        | (rename (op == 14) = true => hq
           obtain rfl : op = 14 := eq_of_beq hq
           exact ret_ints (by rw [show (applyW 14 a b).1 = compareW 14 a b from rfl]; unfold compareW; rw [if_pos rfl]; split <;> simp_all) rfl)
        | (rename (op == 15) = true => hq
           obtain rfl : op = 15 := eq_of_beq hq
           exact ret_ints (by rw [show (applyW 15 a b).1 = compareW 15 a b from rfl]; unfold compareW; rw [if_neg (by decide), if_pos rfl]; split <;> simp_all <;> omega) rfl)
        | (have e : applyW op a b = (0, 1) := by simp_all [applyW]
           rw [e]; rfl)
    · have hz : ((b.toNat : Int) == 0) = false := by simp; omega
      have hz2 : (0 : Int) < b.toNat := by omega
      go_enter Tryd.func86, Tryd.ntmps86
      go_wp2_with (first
        | (go_at_call 88; refine (ref_shift _ _ _ _).mono ?_; rintro e w' ⟨rfl, rfl⟩)
        | (go_at_call 89; refine (ref_flag _ _).mono ?_; rintro e w' ⟨rfl, rfl⟩))
      all_goals go_returns
      all_goals refine ⟨?_, Below.refl _ _⟩
      all_goals go_light
      all_goals first
        | (rename (op == 4) = true => hq
           obtain rfl : op = 4 := eq_of_beq hq
           exact ret_ints (w_add a b).symm rfl)
        | (rename (op == 5) = true => hq
           obtain rfl : op = 5 := eq_of_beq hq
           exact ret_ints (by rw [show (applyW 5 a b).1 = a - b from rfl, w_sub]; omega) rfl)
        | (rename (op == 6) = true => hq
           obtain rfl : op = 6 := eq_of_beq hq
           exact ret_ints (w_mul' a b) rfl)
        | (rename (op == 7) = true => hq
           obtain rfl : op = 7 := eq_of_beq hq
           exact ret_ints (by rw [show applyW 7 a b = divideW 7 a b from rfl]; unfold divideW; first | (rw [if_pos (by omega)]; rfl) | (rw [if_neg (by omega), if_pos rfl, w_div', IntKind.wrap_u64]; omega))
             (by rw [show applyW 7 a b = divideW 7 a b from rfl]; unfold divideW; first | rw [if_pos (by omega)] | rw [if_neg (by omega), if_pos rfl]))
        | (rename (op == 8) = true => hq
           obtain rfl : op = 8 := eq_of_beq hq
           exact ret_ints (by rw [show applyW 8 a b = divideW 8 a b from rfl]; unfold divideW; first | (rw [if_pos (by omega)]; rfl) | (rw [if_neg (by omega), if_neg (by decide), w_mod]; have hm1 := Int.emod_nonneg (a.toNat : Int) (show (b.toNat : Int) ≠ 0 by omega); have hm2 := Int.emod_lt_of_pos (a.toNat : Int) hz2; first | omega | (rw [IntKind.wrap_u64]; omega)))
             (by rw [show applyW 8 a b = divideW 8 a b from rfl]; unfold divideW; first | rw [if_pos (by omega)] | rw [if_neg (by omega), if_neg (by decide)]))
        | (rename (op == 12) = true => hq
           obtain rfl : op = 12 := eq_of_beq hq
           exact ret_ints rfl rfl)
        | (rename (op == 13) = true => hq
           obtain rfl : op = 13 := eq_of_beq hq
           exact ret_ints rfl rfl)
        | (rename (op == 14) = true => hq
           obtain rfl : op = 14 := eq_of_beq hq
           exact ret_ints (by rw [show (applyW 14 a b).1 = compareW 14 a b from rfl]; unfold compareW; rw [if_pos rfl]; split <;> simp_all) rfl)
        | (rename (op == 15) = true => hq
           obtain rfl : op = 15 := eq_of_beq hq
           exact ret_ints (by rw [show (applyW 15 a b).1 = compareW 15 a b from rfl]; unfold compareW; rw [if_neg (by decide), if_pos rfl]; split <;> simp_all <;> omega) rfl)
        | (have e : applyW op a b = (0, 1) := by simp_all [applyW]
           rw [e]; rfl)
end Go.Proofs.YthfdjfgmgoafnaaDoor
