/- The law SystemAssembled, walked. -/
import Derived.Test.YtknonabeagbjeaaGreatDoorBx
import Derived.Test.YtknonabeagbjeaaGreatDoorLy
import Derived.Test.YtknonabeagbjeaaGreatDoorImgS
namespace Go.Proofs.YtknonabeagbjeaaGreatDoor
open Go.RowKit Go.Maps

theorem same_self (c : List UInt32) (d : Int) : sameB c c d d = true := by
  unfold sameB
  simp
set_option maxRecDepth 100000 in
set_option maxHeartbeats 4000000 in
theorem asm_walk (t : ByteArray) (w : World) (hT : Small w) (hM : Mx w) (hp : Pow10 w) :
    Calls Tryz.prog 3 #[.string t] w fun e w' => e = .returned (.bool true) ∧ Below w.heap.size w w' := by
  by_cases hl : 500 < t.size
  · have hI : (500 : Int) < (t.size : Nat) := by omega
    clear hl
    go_enter Tryz.func3, Tryz.ntmps3
    go_wp2_with fail
    go_returns
    exact ⟨rfl, Below.refl _ _⟩
  · have hI : ¬ (500 : Int) < (t.size : Nat) := by omega
    have KR := asm_Read t w hT hM (by omega)
    cases hr : readX t.data.toList with
    | none =>
      rw [hr] at KR
      have HKR := Lib.hid KR
      clear KR hr hl
      go_enter Tryz.func3, Tryz.ntmps3
      go_wp2_with fail
      refine HKR.out.mono ?_
      intro e w1 hR
      obtain ⟨b1, n, k, hk, rfl⟩ := hR
      have q0 : (k != 0) = true := by rw [bne_iff_ne]; exact hk
      have b2 := fun o => b1.alloc b1.size o
      clear b1
      go_wp2_with fail
      go_returns
      exact ⟨rfl, b2 _⟩
    | some x =>
      obtain ⟨cs, d⟩ := x
      rw [hr] at KR
      have hrt := readX_right hr
      have HKR := Lib.hid KR
      clear KR hr hl
      go_enter Tryz.func3, Tryz.ntmps3
      go_wp2_with fail
      refine HKR.out.mono ?_
      intro e w1 hR
      obtain ⟨b1, A, c, rfl, hS⟩ := hR
      have bI : Below w.heap.size w (w1.alloc (.cells #[.slice A cs.length c, .int .i64 (d : Nat)] 24)) := b1.alloc b1.size _
      have hI1 := Blk.new w1 24 #[.slice A cs.length c, .int .i64 (d : Nat)]
      have hS1 : Sl (w1.alloc (.cells #[.slice A cs.length c, .int .i64 (d : Nat)] 24)) w1.heap.size A cs.length (cs.map wv) := hS.below ((Below.refl _ w1).alloc (Nat.le_refl _) _)
      have hS2 := hS1.more (B' := (w1.alloc (.cells #[.slice A cs.length c, .int .i64 (d : Nat)] 24)).heap.size) (by simp)
      have KT := Lib.hid (listing_Text A cs c d _ hS2 hrt (hp.below bI))
      have HI1 := Lib.hid hI1
      have HS2 := Lib.hid hS2
      have HbI := Lib.hid bI
      clear hS hS1 b1 hI1 hS2 bI
      go_wp2_with fail
      refine KT.out.mono ?_
      rintro e w2 ⟨⟨s, rfl, hs⟩, b2⟩
      have B2 := HbI.out.trans (b2.mono HbI.out.size)
      have I2 := HI1.out.below b2 HI1.out.lt
      have S2 := (HS2.out.below b2).more b2.size
      have i20 : w2.cell? ⟨w1.heap.size, 0, none⟩ = some (.slice A cs.length c) := I2.cell 0
      have i21 : w2.cell? ⟨w1.heap.size, 1, none⟩ = some (.int .i64 (d : Nat)) := I2.cell 1
      by_cases hbig : 15000 < s.size
      · have hI2 : (15000 : Int) < (s.size : Nat) := by omega
        clear hbig
        go_wp2_with fail
        go_returns
        exact ⟨rfl, B2⟩
      · have hI2 : ¬ (15000 : Int) < (s.size : Nat) := by omega
        have KR2 := asm_Read s w2 (hT.below B2 hT.1) (hM.below B2) (by omega)
        rw [hs.out, readX_text cs d hrt (by rw [← hs.out, ← size_len]; omega)] at KR2
        have HKR2 := Lib.hid KR2
        have HI2 := Lib.hid I2
        have HS3 := Lib.hid S2
        have HB2 := Lib.hid B2
        clear KR2 hbig b2 B2 I2 S2 i20 i21 hs
        go_wp2_with fail
        refine HKR2.out.mono ?_
        intro e w3 hR
        obtain ⟨b3, A2, c2, rfl, hS4⟩ := hR
        have B4 : Below w2.heap.size w2 (w3.alloc (.cells #[.slice A2 cs.length c2, .int .i64 (d : Nat)] 24)) := b3.alloc b3.size _
        have I4 := HI2.out.below B4 HI2.out.lt
        have J4 := Blk.new w3 24 #[.slice A2 cs.length c2, .int .i64 (d : Nat)]
        have S4 := (HS3.out.below B4).more B4.size
        have T4 : Sl (w3.alloc (.cells #[.slice A2 cs.length c2, .int .i64 (d : Nat)] 24)) (w3.alloc (.cells #[.slice A2 cs.length c2, .int .i64 (d : Nat)] 24)).heap.size A2 cs.length (cs.map wv) := (hS4.below ((Below.refl _ w3).alloc (Nat.le_refl _) _)).more (by simp)
        have i40 : (w3.alloc (.cells #[.slice A2 cs.length c2, .int .i64 (d : Nat)] 24)).cell? ⟨w1.heap.size, 0, none⟩ = some (.slice A cs.length c) := I4.cell 0
        have i41 : (w3.alloc (.cells #[.slice A2 cs.length c2, .int .i64 (d : Nat)] 24)).cell? ⟨w1.heap.size, 1, none⟩ = some (.int .i64 (d : Nat)) := I4.cell 1
        have KRt := image_Right A cs.length c (d : Int)
        rw [hrt] at KRt
        have HKRt := Lib.hid KRt
        have HB4 := Lib.hid (HB2.out.trans (B4.mono HB2.out.size))
        have HI4 := Lib.hid I4
        have HJ4 := Lib.hid J4
        have HS4 := Lib.hid S4
        have HT4 := Lib.hid T4
        clear KRt B4 I4 J4 S4 T4 hS4 b3
        go_wp2_with fail
        refine (HKRt.out _).mono ?_
        rintro e w5 ⟨rfl, b5⟩
        have I5 := HI4.out.below b5 HI4.out.lt
        have J5 := HJ4.out.below b5 HJ4.out.lt
        have S5 := (HS4.out.below b5).more b5.size
        have T5 := (HT4.out.below b5).more b5.size
        have i50 : w5.cell? ⟨w1.heap.size, 0, none⟩ = some (.slice A cs.length c) := I5.cell 0
        have i51 : w5.cell? ⟨w1.heap.size, 1, none⟩ = some (.int .i64 (d : Nat)) := I5.cell 1
        have j50 : w5.cell? ⟨w3.heap.size, 0, none⟩ = some (.slice A2 cs.length c2) := J5.cell 0
        have j51 : w5.cell? ⟨w3.heap.size, 1, none⟩ = some (.int .i64 (d : Nat)) := J5.cell 1
        have B5 := HB4.out.trans (b5.mono HB4.out.size)
        have hn : cs.length ≤ 1000000000000 := by have := (of_decide_eq_true hrt).1; omega
        have KS := image_Same cs cs A A2 c c2 (d : Int) (d : Int) w5 S5 T5 hn
        rw [same_self] at KS
        have HKS := Lib.hid KS
        have HB5 := Lib.hid B5
        clear KS B5 I5 J5 S5 T5 b5 i40 i41
        go_wp2_with fail
        refine HKS.out.mono ?_
        rintro e w6 ⟨rfl, b6⟩
        have B6 := HB5.out.trans (b6.mono HB5.out.size)
        clear b6
        go_wp2_with fail
        go_returns
        exact ⟨rfl, B6⟩
end Go.Proofs.YtknonabeagbjeaaGreatDoor
