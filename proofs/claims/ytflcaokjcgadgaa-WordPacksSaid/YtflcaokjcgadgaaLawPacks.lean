/- WordPacks: the law's own text, walked. -/
import Derived.Test.YtflcaokjcgadgaaInfo
import Derived.Test.YtflcaokjcgadgaaAlive
import Derived.Test.YtflcaokjcgadgaaRefD
import Derived.Test.YtflcaokjcgadgaaRefE
namespace Go.Proofs.Ytflcaokjcgadgaa
open Go.RowKit

theorem word4_le4 (x : UInt32) : wordsL (le4 x) = [x] := by
  have h := x.toNat_lt
  show [word4 _ _ _ _] = [x]
  congr 1
  apply UInt32.toNat_inj.1
  rw [word4_toNat, UInt32.toNat_toUInt8, UInt32.toNat_toUInt8, UInt32.toNat_toUInt8, UInt32.toNat_toUInt8, shr8, shr16, shr24]
  omega
theorem words_le (l : List UInt32) : wordsL (leBytes l) = l := by
  induction l with
  | nil => rfl
  | cons x l ih =>
    show wordsL (le4 x ++ leBytes l) = _
    rw [wordsL_append _ _ 1 rfl, ih, word4_le4]; rfl
theorem le4_word4 (a b c d : UInt8) : le4 (word4 a b c d) = [a, b, c, d] := by
  have := a.toNat_lt; have := b.toNat_lt; have := c.toNat_lt; have := d.toNat_lt
  have e0 : (word4 a b c d).toUInt8 = a := by apply UInt8.toNat_inj.1; rw [UInt32.toNat_toUInt8, word4_toNat]; omega
  have e1 : (word4 a b c d >>> 8).toUInt8 = b := by apply UInt8.toNat_inj.1; rw [UInt32.toNat_toUInt8, shr8, word4_toNat]; omega
  have e2 : (word4 a b c d >>> 16).toUInt8 = c := by apply UInt8.toNat_inj.1; rw [UInt32.toNat_toUInt8, shr16, word4_toNat]; omega
  have e3 : (word4 a b c d >>> 24).toUInt8 = d := by apply UInt8.toNat_inj.1; rw [UInt32.toNat_toUInt8, shr24, word4_toNat]; omega
  unfold le4
  rw [e0, e1, e2, e3]
theorem le_words (x : List UInt8) (q : Nat) (h : x.length = 4 * q) : leBytes (wordsL x) = x := by
  induction q generalizing x with
  | zero => obtain rfl : x = [] := List.eq_nil_of_length_eq_zero (by omega); rfl
  | succ q ih =>
    match x, h with
    | a :: b :: c :: d :: r, h =>
      have := ih r (by simp at h; omega)
      show le4 (word4 a b c d) ++ leBytes (wordsL r) = _
      rw [this, le4_word4]; rfl
    | [], h => simp at h
    | [_], h => simp at h; omega
    | [_, _], h => simp at h; omega
    | [_, _, _], h => simp at h; omega

theorem packs_walk (l : List UInt32) (A : Option Addr) (c : Nat) (s : ByteArray) (w : World) (hl : Sl w w.heap.size A l.length (l.map wv)) (hs : s.size ≤ maxLen) :
    Calls Try.prog 9 #[.slice A l.length c, .string s] w fun e w' => e = .returned (.bool true) ∧ Below w.heap.size w w' := by
  unfold maxLen at hs
  by_cases hbig : 300 < l.length ∨ 1000 < s.size
  · have hc : 300 < l.length ∨ (l.length ≤ 300 ∧ 1000 < s.size) := by omega
    clear hbig
    rcases hc with hc | ⟨hc, hc2⟩
    all_goals
      go_enter Try.func9, Try.ntmps9
      go_wp2_with fail
      refine (alive_any _).mono ?_
      rintro e w1 ⟨rfl, hb1⟩
      go_wp2_with fail
      go_returns
      exact ⟨rfl, hb1⟩
  · have hl300 : l.length ≤ 300 := by omega
    have hs1000 : s.size ≤ 1000 := by omega
    clear hbig hs
    go_enter Try.func9, Try.ntmps9
    go_wp2_with fail
    refine (alive_any _).mono ?_
    rintro e w1 ⟨rfl, hb1⟩
    go_wp2_with fail
    have hl1 := (hl.below hb1).more hb1.size
    refine (word_Bytes l _ _ _ _ hl1 (by omega)).mono ?_
    rintro e w2 ⟨⟨b, rfl, hb⟩, hb2⟩
    have hB2 := hb1.trans (hb2.mono hb1.size)
    have hbs : b.size = 4 * l.length := by rw [← leBytes_length, ← hb.out]; rfl
    have HBS := Lib.hid hbs
    clear hbs
    go_wp2_with fail
    refine (word_Words b _ (by have := HBS.out; omega) (by have := HBS.out; omega)).mono ?_
    rintro e w3 ⟨⟨v3, rfl, hown3⟩, hb3⟩
    have hB3 := hB2.trans (hb3.mono hB2.size)
    rw [hb.out, words_le] at hown3
    obtain ⟨A3, c3, rfl, _, _, hSl3⟩ := Sl.of_own hown3
    go_wp2_with fail
    have hl3 := (hl.below hB3).more hB3.size
    refine (ref_Bytes l _ _ _ _ hl3 (by omega)).mono ?_
    rintro e w4 ⟨⟨b', rfl, hb'⟩, hb4⟩
    have hB4 := hB3.trans (hb4.mono hB3.size)
    obtain rfl : b' = b := ba_inj (by rw [hb.out, hb'.out])
    go_wp2_with fail
    have hSl4 := (hSl3.below hb4).more hb4.size
    have hl4 := (hl.below hB4).more hB4.size
    refine (ref_Same l l _ _ _ _ _ hSl4 hl4 (by omega)).mono ?_
    rintro e w5 ⟨rfl, hb5⟩
    have hB5 := hB4.trans (hb5.mono hB4.size)
    go_wp2_with fail
    by_cases h4 : s.size % 4 = 0
    · have HQ : Hid (leBytes (wordsL s.data.toList) = s.data.toList) := le_words _ (s.size / 4) (show s.size = _ by omega)
      have HLn : Hid ((wordsL s.data.toList).length = s.size / 4) := wordsL_length _ (s.size / 4) (show s.size = _ by omega)
      have H4 := Lib.hid h4
      clear h4
      refine (word_Words s _ (by omega) H4.out).mono ?_
      rintro e w6 ⟨⟨v6, rfl, hown6⟩, hb6⟩
      have hB6 := hB5.trans (hb6.mono hB5.size)
      obtain ⟨A6, c6, rfl, _, _, hSl6⟩ := Sl.of_own hown6
      go_wp2_with fail
      refine (ref_Words s _ (by omega) H4.out).mono ?_
      rintro e w7 ⟨⟨v7, rfl, hown7⟩, hb7⟩
      have hB7 := hB6.trans (hb7.mono hB6.size)
      obtain ⟨A7, c7, rfl, _, _, hSl7⟩ := Sl.of_own hown7
      have hSl6 := (hSl6.below hb7).more hb7.size
      clear hown6 hown7
      generalize wordsL s.data.toList = ws at *
      have hw1 : ws.length ≤ 250 := by have := HLn.out; omega
      go_wp2_with fail
      refine (ref_Same ws ws _ _ _ _ _ hSl6 hSl7 (by omega)).mono ?_
      rintro e w8 ⟨rfl, hb8⟩
      have hB8 := hB7.trans (hb8.mono hB7.size)
      go_wp2_with fail
      have hSl8 := (hSl6.below hb8).more hb8.size
      refine (word_Bytes ws _ _ _ _ hSl8 (by omega)).mono ?_
      rintro e w9 ⟨⟨b9, rfl, hb9⟩, hbe9⟩
      have hB9 := hB8.trans (hbe9.mono hB8.size)
      obtain rfl : b9 = s := ba_inj (by rw [hb9.out, HQ.out])
      go_wp2_with fail
      go_returns
      exact ⟨rfl, hB9⟩
    · refine (word_Words_bad s _ (by omega) h4).mono ?_
      rintro e w6 ⟨rfl, rfl⟩
      go_wp2_with fail
      refine (ref_Words_bad s _ (by omega) h4).mono ?_
      rintro e w7 ⟨rfl, rfl⟩
      go_wp2_with fail
      refine (ref_Same [] [] _ _ _ _ _ Sl.nil Sl.nil (by decide)).mono ?_
      rintro e w6 ⟨rfl, hb6⟩
      go_wp2_with fail
      go_returns
      exact ⟨rfl, hB5.trans (hb6.mono hB5.size)⟩
end Go.Proofs.Ytflcaokjcgadgaa
