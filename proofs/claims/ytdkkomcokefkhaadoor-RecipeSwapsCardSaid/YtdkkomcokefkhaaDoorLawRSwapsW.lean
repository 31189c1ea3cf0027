/- Layer 37: the law RecipeSwaps where something is refused, walked. -/
/- The law RecipeSwaps, walked whole. -/
import Derived.Test.YtdkkomcokefkhaaDoorRcX
import Derived.Test.YtdkkomcokefkhaaDoorLawRSwaps
namespace Go.Proofs.YtdkkomcokefkhaaDoor
open Go.RowKit

theorem refA_many (B : Option Addr) (n c : Nat) (w : World) (h : 20 < n) :
    Calls Tryd.prog 18 #[.agg #[.int .i64 6, .int .u32 0, .int .u32 0, .int .u32 0, .int .u32 0, .slice none 0 0, .slice B n c, .int .i64 0]] w fun r w' => r = .returned (.bool false) ∧ Below w.heap.size w w' := by
  have hI : (20 : Int) < n := by omega
  go_enter Tryd.func18, Tryd.ntmps18
  go_wp2_with fail
  go_returns
  exact ⟨rfl, (Below.refl _ w).alloc (Nat.le_refl _) _⟩
theorem refB_many (A : Option Addr) (n e g : Nat) (w : World) (h : 20 < n) :
    Calls Tryd.prog 18 #[.agg #[.int .i64 3, .int .u32 0, .int .u32 0, .int .u32 0, .int .u32 0, .slice A n e, .slice (some ⟨g, 0, none⟩) 1 1, .int .i64 0]] w fun r w' => r = .returned (.bool false) ∧ Below w.heap.size w w' := by
  have hI : (20 : Int) < n := by omega
  have heq : ∀ w : World, (Op.equalIn 10000 24 (.agg #[.int .u32 0, .int .u32 0, .int .u32 0, .int .u32 0]) (.agg #[.int .u32 0, .int .u32 0, .int .u32 0, .int .u32 0])).run Tryd.prog w = .ok true w := eqD_run (fun _ => 0) (fun _ => 0)
  go_enter Tryd.func18, Tryd.ntmps18
  go_wp2_with fail
  go_returns
  exact ⟨rfl, (Below.refl _ w).alloc (Nat.le_refl _) _⟩
theorem refA_any (B : Option Addr) (n c : Nat) (w : World) :
    Calls Tryd.prog 18 #[.agg #[.int .i64 6, .int .u32 0, .int .u32 0, .int .u32 0, .int .u32 0, .slice none 0 0, .slice B n c, .int .i64 0]] w fun r w' => r = .returned (.bool (rightR 6 (fun _ => 0) [] n 0)) ∧ Below w.heap.size w w' := by
  by_cases h : 20 < n
  · rw [rr_most (t := 6) (I := fun _ => 0) (ps := []) (f := 0) (show ¬ n ≤ 20 by omega)]
    exact refA_many B n c w h
  · exact refR_Right 6 (fun _ => 0) none B [] 0 n c 0 w Sl.nil (by decide) (by omega)
theorem refB_any (A : Option Addr) (ps : List Int) (e g : Nat) (w : World) (hs : Sl w w.heap.size A ps.length (ps.map iv)) :
    Calls Tryd.prog 18 #[.agg #[.int .i64 3, .int .u32 0, .int .u32 0, .int .u32 0, .int .u32 0, .slice A ps.length e, .slice (some ⟨g, 0, none⟩) 1 1, .int .i64 0]] w fun r w' => r = .returned (.bool (rightR 3 (fun _ => 0) ps 1 0)) ∧ Below w.heap.size w w' := by
  by_cases h : 20 < ps.length
  · rw [rr_len (t := 3) (I := fun _ => 0) (m := 1) (f := 0) (show ¬ ps.length ≤ 20 by omega)]
    exact refB_many A ps.length e g w h
  · exact refR_Right 3 (fun _ => 0) A (some ⟨g, 0, none⟩) ps e 1 1 0 w hs (by omega) (by decide)

set_option maxRecDepth 100000 in
set_option maxHeartbeats 4000000 in
theorem rswaps_no (x y : UInt8) (A B : Option Addr) (ls : List (Nat → UInt32)) (ps : List Int) (c e : Nat) (w : World) (hs : Sl w w.heap.size A ps.length (ps.map iv))
    (hno : ¬ (1 ≤ ls.length ∧ 1 ≤ ps.length ∧ rightR 6 (fun _ => 0) [] ls.length 0 = true ∧ rightR 3 (fun _ => 0) ps 1 0 = true)) :
    Calls Tryd.prog 8 #[.slice B ls.length c, .slice A ps.length e, .agg #[.int .u8 x.toNat, .int .u8 y.toNat]] w fun r w' => r = .returned (.bool true) ∧ Below w.heap.size w w' := by
  have hcase : ls.length < 1 ∨ (1 ≤ ls.length ∧ ps.length < 1) ∨ (1 ≤ ls.length ∧ 1 ≤ ps.length) := by omega
  have hB0 := Lib.hid ((Below.refl _ w).alloc (Nat.le_refl _) (.cells #[.int .u8 x.toNat, .int .u8 y.toNat] 43))
  go_enter Tryd.func8, Tryd.ntmps8
  go_wp2_with fail
  refine (awake_any _).mono ?_
  rintro r w1 ⟨rfl, hb1⟩
  have hB1 := Lib.hid (below_new hb1)
  clear hb1 hB0
  have hB4 : Below w.heap.size w (((w1.alloc (.cells #[.int .i64 6, .int .u32 0, .int .u32 0, .int .u32 0, .int .u32 0, .slice none 0 0, .slice B ls.length c, .int .i64 0] 28)).alloc (.cells #[.int .u32 7, .int .u32 0, .int .u32 0, .int .u32 0] 24)).alloc (.cells #[.int .i64 3, .int .u32 0, .int .u32 0, .int .u32 0, .int .u32 0, .slice A ps.length e, .slice (some ⟨w1.heap.size + 1, 0, none⟩) 1 1, .int .i64 0] 28)) := by
    have := hB1.out.size
    exact ((hB1.out.alloc this _).alloc (by simp; omega) _).alloc (by simp; omega) _
  have HB4 := Lib.hid hB4
  clear hB4
  rcases hcase with h1 | ⟨h1, h2⟩ | ⟨h1, h2⟩
  · have hI : (ls.length : Int) < 1 := by omega
    go_wp2_with fail
    go_returns
    exact ⟨rfl, HB4.out⟩
  · have hI : ¬ (ls.length : Int) < 1 := by omega
    have hJ : (ps.length : Int) < 1 := by omega
    go_wp2_with fail
    go_returns
    exact ⟨rfl, HB4.out⟩
  · have hI : ¬ (ls.length : Int) < 1 := by omega
    have hJ : ¬ (ps.length : Int) < 1 := by omega
    have hPw : w1.heap.size + 1 + 1 < (((w1.alloc (.cells #[.int .i64 6, .int .u32 0, .int .u32 0, .int .u32 0, .int .u32 0, .slice none 0 0, .slice B ls.length c, .int .i64 0] 28)).alloc (.cells #[.int .u32 7, .int .u32 0, .int .u32 0, .int .u32 0] 24)).alloc (.cells #[.int .i64 3, .int .u32 0, .int .u32 0, .int .u32 0, .int .u32 0, .slice A ps.length e, .slice (some ⟨w1.heap.size + 1, 0, none⟩) 1 1, .int .i64 0] 28)).heap.size := by simp
    have hbx : Blk (((w1.alloc (.cells #[.int .i64 6, .int .u32 0, .int .u32 0, .int .u32 0, .int .u32 0, .slice none 0 0, .slice B ls.length c, .int .i64 0] 28)).alloc (.cells #[.int .u32 7, .int .u32 0, .int .u32 0, .int .u32 0] 24)).alloc (.cells #[.int .i64 3, .int .u32 0, .int .u32 0, .int .u32 0, .int .u32 0, .slice A ps.length e, .slice (some ⟨w1.heap.size + 1, 0, none⟩) 1 1, .int .i64 0] 28)) (w1.heap.size + 1 + 1) 28 #[.int .i64 3, .int .u32 0, .int .u32 0, .int .u32 0, .int .u32 0, .slice A ps.length e, .slice (some ⟨w1.heap.size + 1, 0, none⟩) 1 1, .int .i64 0] := by
      have k := Blk.new ((w1.alloc (.cells #[.int .i64 6, .int .u32 0, .int .u32 0, .int .u32 0, .int .u32 0, .slice none 0 0, .slice B ls.length c, .int .i64 0] 28)).alloc (.cells #[.int .u32 7, .int .u32 0, .int .u32 0, .int .u32 0] 24)) 28 #[.int .i64 3, .int .u32 0, .int .u32 0, .int .u32 0, .int .u32 0, .slice A ps.length e, .slice (some ⟨w1.heap.size + 1, 0, none⟩) 1 1, .int .i64 0]
      simpa using k
    have HBX := Lib.hid hbx
    have HPW := Lib.hid hPw
    clear hbx hPw
    go_wp2_with fail
    refine (refA_any B ls.length c _).mono ?_
    rintro r w2 ⟨rfl, hb2⟩
    have HB5 := Lib.hid (HB4.out.trans (hb2.mono HB4.out.size))
    have hbx2 := HBX.out.below hb2 HPW.out
    clear hb2
    cases hr : rightR 6 (fun _ => 0) [] ls.length 0 with
    | false =>
      go_wp2_with fail
      go_returns
      exact ⟨rfl, HB5.out⟩
    | true =>
      have hr2 : rightR 3 (fun _ => 0) ps 1 0 = false := by
        cases hh : rightR 3 (fun _ => 0) ps 1 0 with
        | false => rfl
        | true => exact absurd ⟨h1, h2, hr, hh⟩ hno
      clear hno
      obtain ⟨⟨b0, b1, b2, b3, b4, b5, b6, b7⟩, _⟩ := hbx2.all8
      go_wp2_with fail
      refine (refB_any A ps e _ _ ((hs.below HB5.out).more HB5.out.size)).mono ?_
      rintro r w3 ⟨rfl, hb3⟩
      go_wp2_with fail
      go_returns
      exact ⟨rfl, HB5.out.trans (hb3.mono HB5.out.size)⟩
end Go.Proofs.YtdkkomcokefkhaaDoor
namespace Go.Proofs.YtdkkomcokefkhaaDoor
open Go.RowKit

theorem rswaps_walk (x y : UInt8) (A B : Option Addr) (ls : List (Nat → UInt32)) (ps : List Int) (c e : Nat) (w : World) (hs : Sl w w.heap.size A ps.length (ps.map iv)) (hd : Sd w w.heap.size B ls) :
    Calls Tryd.prog 8 #[.slice B ls.length c, .slice A ps.length e, .agg #[.int .u8 x.toNat, .int .u8 y.toNat]] w fun r w' => r = .returned (.bool true) ∧ Below w.heap.size w w' := by
  by_cases h : 1 ≤ ls.length ∧ 1 ≤ ps.length ∧ rightR 6 (fun _ => 0) [] ls.length 0 = true ∧ rightR 3 (fun _ => 0) ps 1 0 = true
  · exact rswaps_good x y A B ls ps c e w hs hd h.1 h.2.1 h.2.2.1 h.2.2.2
  · exact rswaps_no x y A B ls ps c e w hs h
end Go.Proofs.YtdkkomcokefkhaaDoor
