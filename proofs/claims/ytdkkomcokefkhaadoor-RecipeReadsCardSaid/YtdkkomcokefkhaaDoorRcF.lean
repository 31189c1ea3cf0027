/- Layer 37: passes and inputs compared, walked. -/
/- Layer 37: rows of digests, compared. -/
import Derived.Test.YtdkkomcokefkhaaDoorRcA
namespace Go.Proofs.YtdkkomcokefkhaaDoor
open Go.RowKit

set_option maxHeartbeats 400000 in
theorem slices_EqualI (xs ys : List Int) (A B : Option Addr) (c d : Nat) (w : World) (hx : Sl w w.heap.size A xs.length (xs.map iv)) (hy : Sl w w.heap.size B ys.length (ys.map iv)) (hn : xs.length ≤ 1000000000000) :
    Calls Tryd.prog 36 #[.slice A xs.length c, .slice B ys.length d] w fun e w' => e = .returned (.bool (decide (xs = ys))) ∧ Below w.heap.size w w' := by
  by_cases hl : xs.length = ys.length
  · have hne : ((xs.length : Int) != ys.length) = false := by rw [bne_eq_false_iff_eq]; omega
    have HL := Lib.hid hl
    clear hl
    go_enter Tryd.func36, Tryd.ntmps36
    go_wp2
    go_loopw [13] (fun i wr => ∃ k : Nat, k ≤ xs.length ∧ i = .int .i64 k ∧ Hid (xs.take k = ys.take k) ∧ Below w.heap.size w wr) (fun i _ => xs.length - (intOf i).toNat)
    case atStart => exact ⟨0, Nat.zero_le _, rfl, rfl, Below.refl _ _⟩
    case round =>
      obtain ⟨k, hk, rfl, hE, hbel⟩ := hrel
      by_cases hlt : k < xs.length
      · have hlt2 : k < ys.length := by have := HL.out; omega
        obtain ⟨b, off, rfl, hb, hc1⟩ := (hx.below hbel).int hlt
        obtain ⟨b2, off2, rfl, hb2, hc2⟩ := (hy.below hbel).int hlt2
        by_cases hEq : xs[k] = ys[k]
        · have hq : (xs[k] != ys[k]) = false := by rw [bne_eq_false_iff_eq, hEq]
          have HQ := Lib.hid hEq
          clear hEq
          go_wp2
          go_quiet (fail)
          go_wp2
          go_roundw
          case rel => exact ⟨k + 1, by omega, rfl, by unfold Hid; rw [List.take_succ_eq_append_getElem hlt, List.take_succ_eq_append_getElem hlt2, hE.out, HQ.out], below_drewN hbel _⟩
          case measure => simp [intOf]; omega
        · have hq : (xs[k] != ys[k]) = true := by
            rw [bne_iff_ne]
            intro h
            exact hEq h
          have HQ := Lib.hid hEq
          clear hEq
          go_wp2
          go_quiet (fail)
          go_wp2
          go_returns
          refine ⟨ret_bool ?_, below_drewN hbel _⟩
          rw [decide_eq_false]
          intro h
          exact HQ.out (by subst h; rfl)
      · have hT : xs = ys := by
          have h := hE.out
          rw [List.take_of_length_le (by omega), List.take_of_length_le (by have := HL.out; omega)] at h
          exact h
        have HT := Lib.hid hT
        clear hT
        go_wp2
        go_returns
        exact ⟨ret_bool (by rw [decide_eq_true HT.out]), hbel⟩
  · have hne : ((xs.length : Int) != ys.length) = true := by rw [bne_iff_ne]; omega
    have HL := Lib.hid hl
    clear hl
    go_enter Tryd.func36, Tryd.ntmps36
    go_wp2
    go_returns
    exact ⟨ret_bool (by rw [decide_eq_false (fun h => HL.out (by rw [h]))]), Below.refl _ _⟩

end Go.Proofs.YtdkkomcokefkhaaDoor
namespace Go.Proofs.YtdkkomcokefkhaaDoor
open Go.RowKit

/-- A row of digests that reads, below B. -/
def Sd (w : World) (B : Nat) (A : Option Addr) (ds : List (Nat → UInt32)) : Prop :=
  0 < ds.length → ∃ b off, A = some ⟨b, off, none⟩ ∧ b < B ∧ ∀ (j : Nat) (h : j < ds.length) (i : Nat), i < 4 → w.cell? ⟨b, off + 4 * j + i, none⟩ = some (.int .u32 (ds[j] i).toNat)
theorem Sd.below {w w' : World} {B : Nat} {A : Option Addr} {ds : List (Nat → UInt32)} (h : Sd w B A ds) (hb : Below B w w') : Sd w' B A ds := fun h0 => by
  obtain ⟨b, off, hA, hbB, hc⟩ := h h0
  refine ⟨b, off, hA, hbB, fun j hj i hi => ?_⟩
  have e := hc j hj i hi
  unfold World.cell? at e ⊢
  rw [hb.block b hbB]
  exact e
theorem Sd.more {w : World} {B B' : Nat} {A : Option Addr} {ds : List (Nat → UInt32)} (h : Sd w B A ds) (hB : B ≤ B') : Sd w B' A ds := fun h0 => by
  obtain ⟨b, off, hA, hbB, hc⟩ := h h0
  exact ⟨b, off, hA, Nat.lt_of_lt_of_le hbB hB, hc⟩
/-- Alike, digest by digest. -/
def eqDs (xs ys : List (Nat → UInt32)) : Bool := decide (xs.length = ys.length ∧ ∀ j (h : j < xs.length) (h' : j < ys.length), eqD xs[j] ys[j] = true)
theorem dcell {w : World} {b off j : Nat} {d : Nat → UInt32} (h : ∀ i, i < 4 → w.cell? ⟨b, off + 4 * j + i, none⟩ = some (.int .u32 (d i).toNat)) :
    w.cell? ⟨b, off + 4 * j, none⟩ = some (.int .u32 (d 0).toNat) ∧ w.cell? ⟨b, off + 4 * j + 1, none⟩ = some (.int .u32 (d 1).toNat) ∧ w.cell? ⟨b, off + 4 * j + 2, none⟩ = some (.int .u32 (d 2).toNat) ∧ w.cell? ⟨b, off + 4 * j + 3, none⟩ = some (.int .u32 (d 3).toNat) :=
  ⟨h 0 (by decide), h 1 (by decide), h 2 (by decide), h 3 (by decide)⟩

set_option maxHeartbeats 1000000 in
theorem slices_EqualD (xs ys : List (Nat → UInt32)) (A B : Option Addr) (c d : Nat) (w : World) (hx : Sd w w.heap.size A xs) (hy : Sd w w.heap.size B ys) (hn : xs.length ≤ 1000000000) :
    Calls Tryd.prog 37 #[.slice A xs.length c, .slice B ys.length d] w fun e w' => (∃ r, e = .returned (.bool r) ∧ Hid (r = eqDs xs ys)) ∧ Below w.heap.size w w' := by
  by_cases hl : xs.length = ys.length
  · have hne : ((xs.length : Int) != ys.length) = false := by rw [bne_eq_false_iff_eq]; omega
    have HL := Lib.hid hl
    clear hl
    go_enter Tryd.func37, Tryd.ntmps37
    go_wp2
    go_loopw [13] (fun i wr => ∃ k : Nat, k ≤ xs.length ∧ i = .int .i64 k ∧ Hid (∀ j (h : j < xs.length) (h' : j < ys.length), j < k → eqD xs[j] ys[j] = true) ∧ Below w.heap.size w wr) (fun i _ => xs.length - (intOf i).toNat)
    case atStart => exact ⟨0, Nat.zero_le _, rfl, fun j _ _ h => absurd h (by omega), Below.refl _ _⟩
    case round =>
      obtain ⟨k, hk, rfl, hE, hbel⟩ := hrel
      by_cases hlt : k < xs.length
      · have hlt2 : k < ys.length := by have := HL.out; omega
        obtain ⟨b, off, rfl, hb, hc1⟩ := (hx.below hbel) (by omega)
        obtain ⟨b2, off2, rfl, hb2, hc2⟩ := (hy.below hbel) (by omega)
        obtain ⟨p0, p1, p2, p3⟩ := dcell (hc1 k hlt)
        obtain ⟨q0, q1, q2, q3⟩ := dcell (hc2 k hlt2)
        obtain ⟨x, hxk⟩ : ∃ x, xs[k] = x := ⟨_, rfl⟩
        obtain ⟨y, hyk⟩ : ∃ y, ys[k] = y := ⟨_, rfl⟩
        rw [hxk] at p0 p1 p2 p3
        rw [hyk] at q0 q1 q2 q3
        have heq := eqD_run x y
        unfold dgv at heq
        simp only [wv] at heq
        obtain ⟨z, hz⟩ : ∃ z, eqD x y = z := ⟨_, rfl⟩
        rw [hz] at heq
        have HX := Lib.hid hxk
        have HY := Lib.hid hyk
        have HZ := Lib.hid hz
        clear hxk hyk hz hc1 hc2
        have m1 : k * 4 = 4 * k := Nat.mul_comm k 4
        cases z with
        | true =>
          go_wp2
          go_quiet (fail)
          go_wp2
          go_roundw
          case rel =>
            refine ⟨k + 1, hlt, rfl, fun j h h' hj => ?_, below_drewN hbel _⟩
            by_cases hjk : j = k
            · subst hjk
              rw [HX.out, HY.out]
              exact HZ.out
            · exact hE.out j h h' (by omega)
          case measure => simp [intOf]; omega
        | false =>
          have HR : Hid (false = eqDs xs ys) := by
            refine (decide_eq_false ?_).symm
            intro h
            have h2 := h.2 k hlt hlt2
            rw [HX.out, HY.out, HZ.out] at h2
            exact absurd h2 (by decide)
          go_wp2
          go_quiet (fail)
          go_wp2
          go_returns
          exact ⟨⟨_, rfl, HR⟩, below_drewN hbel _⟩
      · have HR : Hid (true = eqDs xs ys) := by
          refine (decide_eq_true ⟨HL.out, fun j h h' => hE.out j h h' (by omega)⟩).symm
        go_wp2
        go_returns
        exact ⟨⟨_, rfl, HR⟩, hbel⟩
  · have hne : ((xs.length : Int) != ys.length) = true := by rw [bne_iff_ne]; omega
    have HR : Hid (false = eqDs xs ys) := (decide_eq_false (fun h => hl h.1)).symm
    clear hl
    go_enter Tryd.func37, Tryd.ntmps37
    go_wp2
    go_returns
    exact ⟨⟨_, rfl, HR⟩, Below.refl _ _⟩
end Go.Proofs.YtdkkomcokefkhaaDoor
