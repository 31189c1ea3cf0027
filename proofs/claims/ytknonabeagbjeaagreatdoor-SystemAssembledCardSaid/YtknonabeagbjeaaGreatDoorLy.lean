/- Layer 11: the whole text of an image that may be, walked: the program's. -/
import Derived.Laws.EntriesVeiled
import Derived.Test.YtknonabeagbjeaaGreatDoorLx
namespace Go.Proofs.YtknonabeagbjeaaGreatDoor
open Go.RowKit

theorem joinB2 (a b : ByteArray) : joinB [a, b] = a.data.toList ++ b.data.toList := by simp [joinB]
theorem joinB3 (a b c : ByteArray) : joinB [a, b, c] = a.data.toList ++ b.data.toList ++ c.data.toList := by simp [joinB]
set_option maxRecDepth 100000 in
set_option maxHeartbeats 4000000 in
theorem listing_Text (A : Option Addr) (code : List UInt32) (c : Nat) (d : Nat) (w : World) (hA : Sl w w.heap.size A code.length (code.map wv)) (hr : rightB code.length (d : Int) = true) (hp : Pow10 w) :
    Calls Tryz.prog 5 #[.agg #[.slice A code.length c, .int .i64 (d : Int)]] w fun e w' => (∃ s, e = .returned (.tuple #[.string s, .int .i64 0]) ∧ Hid (s.data.toList = textT code d)) ∧ Below w.heap.size w w' := by
  have hr2 := of_decide_eq_true hr
  have hn : code.length ≤ 20000 := by omega
  have hd : d < 4294967296 := by omega
  have T0 := Tg.new w A code.length c (d : Int)
  have t0 := T0.cells.1
  have t1 := T0.cells.2
  have KR : Hid (∀ W : World, Calls Tryz.prog 6 #[.agg #[.slice A code.length c, .int .i64 (d : Int)]] W fun e w' => e = .returned (.bool true) ∧ Below W.heap.size W w') := Lib.hid fun W => by
    have h := image_Right A code.length c (d : Int) W
    rw [hr] at h
    exact h
  have KT : Hid (∀ W : World, Below w.heap.size w W → Calls Tryz.prog 13 #[.agg #[.slice A code.length c, .int .i64 (d : Int)]] W fun e w' => (∃ b, e = .returned (.map (some b)) ∧ W.heap.size ≤ b ∧ Tm w' b code code.length) ∧ Below W.heap.size W w') :=
    Lib.hid fun W h => listing_targets A code c (d : Int) W ((hA.below h).more h.size) hn
  have KD := Lib.hid (fun W h => listing_decimal d hd W h)
  obtain ⟨D, hD⟩ : ∃ D : ByteArray, (⟨(Lib.decDigits d).toArray⟩ : ByteArray) = D := ⟨_, rfl⟩
  rw [hD] at KD
  have HD : Hid (D.data.toList = Lib.decDigits d) := Lib.hid (by rw [← hD])
  clear hr hr2 hD
  go_enter Tryz.func5, Tryz.ntmps5
  go_wp2_with fail
  refine (KR.out _).mono ?_
  rintro e w1 ⟨rfl, hb1⟩
  have T1 := T0.below hb1
  have a0 := (T1.alloc (.cells #[.pointer none, .slice none 0 0] 47)).cells.1
  have a1 := (T1.alloc (.cells #[.pointer none, .slice none 0 0] 47)).cells.2
  have B1 := bd_fresh w1
  have T1' := T1.alloc (.cells #[.pointer none, .slice none 0 0] 47)
  have hq1 := T1.m.lt
  clear t0 t1 hb1 T0 T1
  go_wp2_with fail
  have hq2 : w1.heap.size < (w1.alloc (.cells #[.pointer none, .slice none 0 0] 47)).heap.size := by simp
  generalize w1.alloc (.cells #[.pointer none, .slice none 0 0] 47) = V1 at T1' B1 a0 a1 hq2 ⊢
  generalize w1.heap.size = q at B1 hq1 hq2 ⊢
  refine (KT.out V1 T1'.bel).mono ?_
  rintro e w2 ⟨⟨b, rfl, hbb, hM⟩, hb2⟩
  have L2 : Lx w A code c (d : Int) q b [] w2 := ⟨T1'.below hb2, bd_below B1 rfl hb2, hM, hq1, by omega, Nat.lt_of_lt_of_le hq2 hb2.size⟩
  have t0 := L2.g.cells.1
  have t1 := L2.g.cells.2
  clear a0 a1 T1' B1 hM hb2 hbb hq2 hq1
  go_wp2_with fail
  refine (KD.out _ (hp.below L2.g.bel)).mono ?_
  rintro e w3 ⟨rfl, hb3⟩
  have L3 := (L2.below rfl hb3).alloc (.cells #[.string ⟨#[46, 100, 97, 116, 97, 32]⟩, .string D] 9)
  have P3 := Blk.new w3 9 #[.string ⟨#[46, 100, 97, 116, 97, 32]⟩, .string D]
  have n3 : w3.heap.size ≠ q := by have := (L2.below rfl hb3).qw; omega
  have s3 : D.size ≤ 10 := by
    have e : D.data.toList.length = D.size := rfl
    have := dec_length32 d hd
    rw [HD.out] at e; omega
  clear t0 t1 L2 hb3
  go_wp2_with fail
  refine (text_line [⟨#[46, 100, 97, 116, 97, 32]⟩, D] q w3.heap.size 2 [] _ L3.bd P3 n3 (by simp) (by rw [joinB2, List.length_append, show D.data.toList.length = D.size from rfl, show (⟨#[46, 100, 97, 116, 97, 32]⟩ : ByteArray).data.toList.length = 6 from rfl]; simp; omega) (Nat.le_of_lt L3.qw)).mono ?_
  rintro e w4 ⟨rfl, B4, b4, o4⟩
  have L4 := L3.put B4 b4 o4
  rw [joinB2, HD.out] at L4
  have HL4 : Hid (Lx w A code c (d : Int) q b (textP code d 0) w4) := Lib.hid (by
    have e : textP code d 0 = [] ++ ([46, 100, 97, 116, 97, 32] ++ Lib.decDigits d) ++ [10] := by simp [textP, linesP, lfs, hdrL]
    rw [e]
    exact L4)
  have t0 := HL4.out.g.cells.1
  clear L3 P3 n3 s3 B4 b4 o4 L4
  go_wp2_with fail
  go_loopw [24] (fun i wr => ∃ j : Nat, j ≤ code.length ∧ i = .int .i64 j ∧ Lx w A code c (d : Int) q b (textP code d j) wr) (fun i _ => code.length - (intOf i).toNat)
  case atStart => exact ⟨0, Nat.zero_le _, rfl, HL4.out⟩
  case round =>
    clear HL4 t0
    obtain ⟨j, hj, rfl, hL⟩ := hrel
    by_cases hlt : j < code.length
    · obtain ⟨bk, off, rfl, hbk, hc⟩ := (hA.below hL.g.bel).word hlt
      have hjI : (j : Int) < code.length := by omega
      have hnI : (code.length : Int) ≤ 20000 := by omega
      have hj0 : (0 : Int) ≤ j := by omega
      have hlook := hL.m.look (j : Int) (WalkArith.wf_i64 (by omega))
      rw [setB_all, decide_eq_true hlt, Bool.and_true] at hlook
      have hmem : code[j] ∈ code := List.getElem_mem hlt
      have HTL := Lib.hid (text_len code d hd j (by omega))
      have HIL := Lib.hid (item_len code[j] code.length)
      have hrow : rowP code j = (if isT code j = true then [lblL j] else []) ++ [[32, 32] ++ itemL code[j] code.length] := by
        unfold rowP
        rw [List.getD_eq_getElem?_getD, List.getElem?_eq_getElem hlt]
        rfl
      have HS := Lib.hid (textP_succ code d j)
      rw [hrow] at HS
      clear hrow
      obtain ⟨x, hx⟩ : ∃ x, code[j] = x := ⟨_, rfl⟩
      rw [hx] at hc hmem HIL HS
      have KX := Lib.hid (fun (W : World) (hM : Tm W b code code.length) (h : Pow10 W) => listing_textOf code x b W hmem hM h hn)
      clear hx hmem
      have HL := Lib.hid hL
      clear hL
      cases ht : isT code j with
      | false =>
        rw [ht] at hlook HS
        clear ht
        go_wp2_with fail
        refine (KX.out wr HL.out.m (hp.below HL.out.g.bel)).mono ?_
        rintro e w5 ⟨⟨s, rfl, hs⟩, hb5⟩
        have L5 := (HL.out.below rfl hb5).alloc (.cells #[.string ⟨#[32, 32]⟩, .string s] 9)
        have P5 := Blk.new w5 9 #[.string ⟨#[32, 32]⟩, .string s]
        have n5 : w5.heap.size ≠ q := by have := (HL.out.below rfl hb5).qw; omega
        have s5 : s.size ≤ 50 := by
          have e : s.data.toList.length = s.size := rfl
          rw [hs.out] at e
          have := HIL.out
          omega
        clear hlook hc hb5
        go_wp2_with fail
        refine (text_line [⟨#[32, 32]⟩, s] q w5.heap.size 2 _ _ L5.bd P5 n5 (by simp) (by rw [joinB2, List.length_append, show s.data.toList.length = s.size from rfl, show (⟨#[32, 32]⟩ : ByteArray).data.toList.length = 2 from rfl]; have := HTL.out; omega) (Nat.le_of_lt L5.qw)).mono ?_
        rintro e w6 ⟨rfl, B6, b6, o6⟩
        have L6 := L5.put B6 b6 o6
        rw [joinB2, hs.out] at L6
        have HL6 : Hid (Lx w (some ⟨bk, off, none⟩) code c (d : Int) q b (textP code d (j + 1)) w6) := Lib.hid (by
          have e : textP code d (j + 1) = textP code d j ++ ([32, 32] ++ itemL x code.length) ++ [10] := by
            rw [HS.out]
            simp [lfs]
          rw [e]
          exact L6)
        have t0 := HL6.out.g.cells.1
        clear L5 P5 n5 s5 B6 b6 o6 L6
        go_wp2_with fail
        go_roundw
        case rel => exact ⟨j + 1, hlt, by simp, HL6.out⟩
        case measure => simp [intOf]; omega
      | true =>
        rw [ht] at hlook HS
        clear ht
        have KJ := Lib.hid (fun W h => listing_decimal j (by omega) W h)
        obtain ⟨E, hE⟩ : ∃ E : ByteArray, (⟨(Lib.decDigits j).toArray⟩ : ByteArray) = E := ⟨_, rfl⟩
        rw [hE] at KJ
        have HE : Hid (E.data.toList = Lib.decDigits j) := Lib.hid (by rw [← hE])
        have hEs : E.size ≤ 10 := by
          have e : E.data.toList.length = E.size := rfl
          have := dec_length32 j (by omega)
          rw [HE.out] at e; omega
        clear hE
        go_wp2_with fail
        refine (KJ.out wr (hp.below HL.out.g.bel)).mono ?_
        rintro e w5 ⟨rfl, hb5⟩
        have L5 := (HL.out.below rfl hb5).alloc (.cells #[.string ⟨#[76]⟩, .string E, .string ⟨#[58]⟩] 9)
        have P5 := Blk.new w5 9 #[.string ⟨#[76]⟩, .string E, .string ⟨#[58]⟩]
        have n5 : w5.heap.size ≠ q := by have := (HL.out.below rfl hb5).qw; omega
        clear hlook hc hb5
        go_wp2_with fail
        refine (text_line [⟨#[76]⟩, E, ⟨#[58]⟩] q w5.heap.size 3 _ _ L5.bd P5 n5 (by simp) (by rw [joinB3, List.length_append, List.length_append, show E.data.toList.length = E.size from rfl, show (⟨#[76]⟩ : ByteArray).data.toList.length = 1 from rfl, show (⟨#[58]⟩ : ByteArray).data.toList.length = 1 from rfl]; have := HTL.out; omega) (Nat.le_of_lt L5.qw)).mono ?_
        rintro e w6 ⟨rfl, B6, b6, o6⟩
        have L6 := Lib.hid (L5.put B6 b6 o6)
        clear L5 P5 n5 B6 b6 o6
        go_wp2_with fail
        refine (KX.out w6 L6.out.m (hp.below L6.out.g.bel)).mono ?_
        rintro e w7 ⟨⟨s, rfl, hs⟩, hb7⟩
        have L7 := (L6.out.below rfl hb7).alloc (.cells #[.string ⟨#[32, 32]⟩, .string s] 9)
        have P7 := Blk.new w7 9 #[.string ⟨#[32, 32]⟩, .string s]
        have n7 : w7.heap.size ≠ q := by have := (L6.out.below rfl hb7).qw; omega
        have s7 : s.size ≤ 50 := by
          have e : s.data.toList.length = s.size := rfl
          rw [hs.out] at e
          have := HIL.out
          omega
        clear hb7 L6
        go_wp2_with fail
        refine (text_line [⟨#[32, 32]⟩, s] q w7.heap.size 2 _ _ L7.bd P7 n7 (by simp) (by rw [joinB2, joinB3, List.length_append, List.length_append, List.length_append, List.length_append, List.length_append, show s.data.toList.length = s.size from rfl, show E.data.toList.length = E.size from rfl, show (⟨#[32, 32]⟩ : ByteArray).data.toList.length = 2 from rfl, show (⟨#[76]⟩ : ByteArray).data.toList.length = 1 from rfl, show (⟨#[58]⟩ : ByteArray).data.toList.length = 1 from rfl, show [(10 : UInt8)].length = 1 from rfl]; have := HTL.out; omega) (Nat.le_of_lt L7.qw)).mono ?_
        rintro e w8 ⟨rfl, B8, b8, o8⟩
        have L8 := L7.put B8 b8 o8
        rw [joinB2, joinB3, hs.out, HE.out] at L8
        have HL8 : Hid (Lx w (some ⟨bk, off, none⟩) code c (d : Int) q b (textP code d (j + 1)) w8) := Lib.hid (by
          have e : textP code d (j + 1) = textP code d j ++ ((⟨#[76]⟩ : ByteArray).data.toList ++ Lib.decDigits j ++ (⟨#[58]⟩ : ByteArray).data.toList) ++ [10] ++ ((⟨#[32, 32]⟩ : ByteArray).data.toList ++ itemL x code.length) ++ [10] := by
            rw [HS.out]
            simp [lfs, lblL]
          rw [e]
          exact L8)
        have t0 := HL8.out.g.cells.1
        clear L7 P7 n7 s7 B8 b8 o8 L8
        go_wp2_with fail
        go_roundw
        case rel => exact ⟨j + 1, hlt, by simp, HL8.out⟩
        case measure => simp [intOf]; omega
    · obtain rfl : j = code.length := by omega
      have HL := Lib.hid hL
      clear hL
      go_wp2_with fail
      refine (Builder_String q q _ wr HL.out.bd (Nat.le_of_lt HL.out.qw)).mono ?_
      rintro e w5 ⟨rfl, -, b5, -⟩
      obtain ⟨S, hS⟩ : ∃ S : ByteArray, (⟨(textP code d code.length).toArray⟩ : ByteArray) = S := ⟨_, rfl⟩
      have HS : Hid (S.data.toList = textT code d) := Lib.hid (by rw [← hS]; rfl)
      rw [hS]
      clear hS
      go_wp2_with fail
      go_returns
      exact ⟨⟨S, rfl, HS⟩, HL.out.g.bel.trans (b5.mono (Nat.le_of_lt HL.out.lt))⟩
end Go.Proofs.YtknonabeagbjeaaGreatDoor
