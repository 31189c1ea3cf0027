/- ImageReads: the law's own text, walked. -/
import Derived.Test.YtphejmeihojabaaImgA
import Derived.Test.YtphejmeihojabaaImgL
namespace Go.Proofs.Ytphejmeihojabaa
open Go.RowKit

theorem reads_walk (s : ByteArray) (w : World) (hs : s.size ≤ maxLen) :
    Calls Try.prog 4 #[.string s] w fun e w' => e = .returned (.bool true) ∧ Below w.heap.size w w' := by
  unfold maxLen at hs
  by_cases hbig : 8000 < s.size
  · go_enter Try.func4, Try.ntmps4
    go_wp2_with fail
    refine (img_awake _).mono ?_
    rintro e w1 ⟨rfl, hb1⟩
    go_wp2_with fail
    go_returns
    exact ⟨rfl, hb1⟩
  · have h8 : s.size ≤ 8000 := by omega
    clear hs
    cases hr : readI s.data.toList with
    | none =>
      have HR := Lib.hid hr
      clear hr
      go_enter Try.func4, Try.ntmps4
      go_wp2_with fail
      refine (img_awake _).mono ?_
      rintro e w1 ⟨rfl, hb1⟩
      go_wp2_with fail
      refine (image_Read_bad s _ (by omega) HR.out).mono ?_
      rintro e w2 ⟨rfl, hb2⟩
      have hB2 := hb1.trans (hb2.mono hb1.size)
      clear hb1 hb2
      go_wp2_with fail
      refine (refRead_bad s _ (by omega) HR.out).mono ?_
      rintro e w3 ⟨rfl, hb3⟩
      have hM3 := (Blk.new w2 24 #[.slice none 0 0, .int .i64 0]).below hb3 (by simp)
      have hB3 := hB2.trans ((below_new hb3).mono hB2.size)
      clear hb3 hB2
      have m0 := hM3.cell 0
      have m1 := hM3.cell 1
      have l3 := hM3.lt
      go_wp2_with fail
      refine (refI_Same [] [] none none 0 0 0 0 _ Sl.nil Sl.nil (by decide)).mono ?_
      rintro e w4 ⟨rfl, hb4⟩
      have hB4 := hB3.trans ((below_new hb4).mono hB3.size)
      clear m0 m1 hM3 hB3 hb4
      go_wp2_with fail
      go_returns
      exact ⟨rfl, hB4⟩
    | some cd =>
      obtain ⟨code, d⟩ := cd
      have HR := Lib.hid hr
      clear hr
      go_enter Try.func4, Try.ntmps4
      go_wp2_with fail
      refine (img_awake _).mono ?_
      rintro e w1 ⟨rfl, hb1⟩
      go_wp2_with fail
      refine (image_Read_ok s code d _ HR.out).mono ?_
      rintro e w2 ⟨⟨v2, rfl, hown2⟩, hb2⟩
      obtain ⟨A2, c2, rfl, _, _, hS2⟩ := Sl.of_own hown2
      obtain ⟨hput, hright, hlen⟩ := read_put HR.out
      have hcl : code.length ≤ 8000 := by have hl : s.data.toList.length = s.size := rfl; omega
      have HP := Lib.hid hput
      have HG := Lib.hid hright
      clear hput hright hlen
      have hB2 := hb1.trans (hb2.mono hb1.size)
      clear hb1 hb2 hown2
      go_wp2_with fail
      refine (refRead_ok s code d _ HR.out).mono ?_
      rintro e w3 ⟨⟨v3, rfl, hown3⟩, hb3⟩
      obtain ⟨A3, c3, rfl, _, _, hS3⟩ := Sl.of_own hown3
      have hM3 := (Blk.new w2 24 #[.slice A2 code.length c2, .int .i64 d]).below hb3 (by simp)
      have hB3 := hB2.trans ((below_new hb3).mono hB2.size)
      have hS3' := (hS2.below (below_new hb3)).more (below_new hb3).size
      clear hb3 hB2 hown3 hS2
      have m0 := hM3.cell 0
      have m1 := hM3.cell 1
      have l3 := hM3.lt
      go_wp2_with fail
      have hal := (Below.refl w3.heap.size w3).alloc (Nat.le_refl _) (.cells #[.slice A3 code.length c3, .int .i64 d] 24)
      refine (refI_Same code code A2 A3 c2 c3 d d _ ((hS3'.below hal).more hal.size) ((hS3.below hal).more hal.size) (by omega)).mono ?_
      rintro e w4 ⟨rfl, hb4⟩
      have hM4 := hM3.below (below_new hb4) hM3.lt
      have hB4 := hB3.trans ((below_new hb4).mono hB3.size)
      have hS4 := (hS3'.below (below_new hb4)).more (below_new hb4).size
      clear m0 m1 hM3 hB3 hb4 hS3 hS3' hal
      have hsame : sameB code code d d = true := decide_eq_true ⟨rfl, rfl⟩
      have m0 := hM4.cell 0
      have m1 := hM4.cell 1
      go_wp2_with fail
      refine (image_Put A2 code c2 d _ hS4 HG.out).mono ?_
      rintro e w5 ⟨⟨t, rfl, ht⟩, hb5⟩
      have hB5 := hB4.trans (hb5.mono hB4.size)
      clear m0 m1 hM4 hB4 hb5 hS4
      obtain rfl : t = s := ba_inj (by rw [ht.out, HP.out])
      go_wp2_with fail
      go_returns
      exact ⟨rfl, hB5⟩
end Go.Proofs.Ytphejmeihojabaa
