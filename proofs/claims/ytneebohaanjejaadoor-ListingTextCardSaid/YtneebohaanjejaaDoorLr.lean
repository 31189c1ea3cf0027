/- Layer 11: a word's line, walked: the document's. -/
import Derived.Test.YtneebohaanjejaaDoorLx
import Derived.Test.YtneebohaanjejaaDoorInM
namespace Go.Proofs.YtneebohaanjejaaDoor
open Go.RowKit

theorem ref11_number (n : Nat) (hn : n < 4294967296) (w : World) :
    Calls Tryd.prog 54 #[.int .i64 (n : Int)] w fun e w' => e = .returned (.string ⟨(Lib.decDigits n).toArray⟩) ∧ Below w.heap.size w w' := by
  have K := ref01_Text n hn w
  have hw : IntKind.u32.wrap (n : Int) = n := by rw [IntKind.wrap_u32']; omega
  obtain ⟨T, hT⟩ : ∃ T : ByteArray, (⟨(Lib.decDigits n).toArray⟩ : ByteArray) = T := ⟨_, rfl⟩
  rw [hT] at K ⊢
  have KH := Lib.hid K
  clear K hT
  go_enter Tryd.func54, Tryd.ntmps54
  go_wp2_with fail
  refine KH.out.mono ?_
  rintro e w1 ⟨rfl, hb⟩
  go_wp2_with fail
  go_returns
  exact ⟨rfl, hb⟩
theorem big_no {a b : Nat} (h : a + b ≤ 1000000) : ¬ 9223372036854775807 < a + b := by omega
/-- A line as the document gives it. -/
def lineR (x : UInt32) (n : Nat) : List UInt8 := [32, 32] ++ itemL x n ++ [10]

set_option maxHeartbeats 2000000 in
theorem ref11_Line (x : UInt32) (n : Nat) (w : World) (_hn : n ≤ 20000) :
    Calls Tryd.prog 55 #[.int .u32 x.toNat, .int .i64 (n : Int)] w fun e w' => (∃ t, e = .returned (.string t) ∧ Hid (t.data.toList = lineR x n)) ∧ Below w.heap.size w w' := by
  cases hd : decB x with
  | false =>
    have KD := Lib.hid (fun W => ref_Decode_bad x W hd)
    have KT := Lib.hid (fun W => ref01_Text x.toNat x.toNat_lt W)
    have hit : itemL x n = [46, 119, 111, 114, 100, 32] ++ Lib.decDigits x.toNat := by unfold itemL; rw [if_neg (by rw [hd]; decide)]
    have hl := dec_length32 x.toNat x.toNat_lt
    obtain ⟨T, hT⟩ : ∃ T : ByteArray, (⟨(Lib.decDigits x.toNat).toArray⟩ : ByteArray) = T := ⟨_, rfl⟩
    rw [hT] at KT
    have hTz : T.size ≤ 10 := by rw [← hT]; exact hl
    have HI : Hid (((⟨#[32, 32, 46, 119, 111, 114, 100, 32]⟩ ++ T : ByteArray) ++ ⟨#[10]⟩).data.toList = lineR x n) := by
      unfold Hid lineR
      rw [hit, ba_app, ba_app, ← hT]
      rfl
    have q1 : ¬ 9223372036854775807 < (⟨#[32, 32, 46, 119, 111, 114, 100, 32]⟩ : ByteArray).size + T.size := by show ¬ 9223372036854775807 < 8 + T.size; omega
    have q2 : ¬ 9223372036854775807 < (⟨#[32, 32, 46, 119, 111, 114, 100, 32]⟩ ++ T : ByteArray).size + (⟨#[10]⟩ : ByteArray).size := by
      rw [ByteArray.size_append]
      show ¬ 9223372036854775807 < 8 + T.size + 1
      omega
    clear hd hit hl hT
    go_enter Tryd.func55, Tryd.ntmps55
    go_wp2_with fail
    refine (KD.out _).mono ?_
    rintro e w1 ⟨rfl, hb1⟩
    have b1 := hb1.alloc hb1.size (.cells #[.int .i64 0, .int .i64 0, .int .i64 0, .int .i64 0] 42)
    go_wp2_with fail
    refine (KT.out _).mono ?_
    rintro e w2 ⟨rfl, hb2⟩
    have b2 := b1.trans (hb2.mono b1.size)
    go_wp2_with fail
    go_returns
    exact ⟨⟨_, rfl, HI⟩, b2⟩
  | true =>
    have KD := Lib.hid (fun W => ref_Decode_ok x W hd)
    have KL := Lib.hid (ref11_Jump x)
    have hcase : (jmpB x && decide (cD x < (n : Int))) = false ∨ (jmpB x = true ∧ cD x < (n : Int)) := by
      cases jmpB x with
      | false => exact .inl rfl
      | true => by_cases h : cD x < (n : Int)
                · exact .inr ⟨rfl, h⟩
                · exact .inl (by rw [decide_eq_false h]; rfl)
    rcases hcase with hcs | ⟨hj, hlt⟩
    · have KT := Lib.hid (fun W => ref_Text (opD x) (aD x) (bD x) (cD x) W)
      have hI := item_plain hd hcs
      have hIl : (itemL x n).length ≤ 1000 := Nat.le_trans (item_len x n) (by decide)
      have hok : jmpB x = false ∨ (jmpB x = true ∧ ¬ cD x < (n : Int)) := by
        cases hj : jmpB x with
        | false => exact .inl rfl
        | true =>
          refine .inr ⟨rfl, fun h => ?_⟩
          rw [hj, decide_eq_true h] at hcs
          exact absurd hcs (by decide)
      clear hd hcs
      generalize textB (opD x) (aD x) (bD x) (cD x) = T at KT hI
      have hTz : T.size ≤ 1000 := by
        have e : T.data.toList.length = T.size := rfl
        rw [← hI] at e; omega
      have HI : Hid (((⟨#[32, 32]⟩ ++ T : ByteArray) ++ ⟨#[10]⟩).data.toList = lineR x n) := by
        unfold Hid lineR
        rw [hI, ba_app, ba_app]
      have q1 : ¬ 9223372036854775807 < (⟨#[32, 32]⟩ : ByteArray).size + T.size := by show ¬ 9223372036854775807 < 2 + T.size; omega
      have q2 : ¬ 9223372036854775807 < (⟨#[32, 32]⟩ ++ T : ByteArray).size + (⟨#[10]⟩ : ByteArray).size := by
        rw [ByteArray.size_append]
        show ¬ 9223372036854775807 < 2 + T.size + 1
        omega
      clear hI hIl
      rcases hok with hj | ⟨hj, hge⟩
      · rw [hj, lead_false hj] at KL
        clear hj
        generalize opD x = o at *
        generalize aD x = p1 at *
        generalize bD x = p2 at *
        generalize cD x = p3 at *
        go_enter Tryd.func55, Tryd.ntmps55
        go_wp2_with fail
        refine (KD.out _).mono ?_
        rintro e w1 ⟨rfl, hb1⟩
        have b1 := hb1.alloc hb1.size (.cells #[.int .i64 o, .int .i64 p1, .int .i64 p2, .int .i64 p3] 42)
        have hB1 := Blk.new w1 42 #[.int .i64 o, .int .i64 p1, .int .i64 p2, .int .i64 p3]
        go_wp2_with fail
        refine (KL.out _).mono ?_
        rintro e w2 ⟨rfl, hb2⟩
        have b2 := b1.trans (hb2.mono b1.size)
        have hB2 := hB1.below hb2 hB1.lt
        have c0 := hB2.cell 0
        have c1 := hB2.cell 1
        have c2 := hB2.cell 2
        have c3 := hB2.cell 3
        go_wp2_with fail
        refine (KT.out _).mono ?_
        rintro e w3 ⟨rfl, hb3⟩
        have b3 := b2.trans (hb3.mono b2.size)
        go_wp2_with fail
        go_returns
        exact ⟨⟨_, rfl, HI⟩, b3⟩
      · rw [hj, lead_true hj] at KL
        have hge2 : (n : Int) ≤ cD x := by omega
        clear hj hge
        generalize opD x = o at *
        generalize aD x = p1 at *
        generalize bD x = p2 at *
        generalize cD x = p3 at *
        go_enter Tryd.func55, Tryd.ntmps55
        go_wp2_with fail
        refine (KD.out _).mono ?_
        rintro e w1 ⟨rfl, hb1⟩
        have b1 := hb1.alloc hb1.size (.cells #[.int .i64 o, .int .i64 p1, .int .i64 p2, .int .i64 p3] 42)
        have hB1 := Blk.new w1 42 #[.int .i64 o, .int .i64 p1, .int .i64 p2, .int .i64 p3]
        go_wp2_with fail
        refine (KL.out _).mono ?_
        rintro e w2 ⟨rfl, hb2⟩
        have b2 := b1.trans (hb2.mono b1.size)
        have hB2 := hB1.below hb2 hB1.lt
        have c0 := hB2.cell 0
        have c1 := hB2.cell 1
        have c2 := hB2.cell 2
        have c3 := hB2.cell 3
        go_wp2_with fail
        refine (KT.out _).mono ?_
        rintro e w3 ⟨rfl, hb3⟩
        have b3 := b2.trans (hb3.mono b2.size)
        go_wp2_with fail
        go_returns
        exact ⟨⟨_, rfl, HI⟩, b3⟩
    · have hI := item_jump (n := n) hj hlt
      have hc := cD_lt x
      have ha := aD_lt x
      have ho : opD x = 18 ∨ opD x = 19 ∨ opD x = 20 ∨ opD x = 21 := by
        rcases jmp_cases x with ⟨_, h⟩ | ⟨_, h, _⟩ | ⟨_, _, h⟩
        · rw [hj] at h; exact absurd h (by decide)
        · rw [hj] at h; exact absurd h (by decide)
        · exact h
      obtain ⟨cn, hcI⟩ : ∃ cn : Nat, cD x = (cn : Int) := ⟨(cD x).toNat, by omega⟩
      obtain ⟨an, haI⟩ : ∃ an : Nat, aD x = (an : Int) := ⟨(aD x).toNat, by omega⟩
      have hlt2 : (cn : Int) < (n : Int) := by omega
      rw [hj, lead_true hj, hcI] at KL
      rw [hcI, haI] at KD
      have KC := Lib.hid (fun W => ref11_number cn (by omega) W)
      have KA := Lib.hid (fun W => ref11_number an (by omega) W)
      have hlc := dec_length32 cn (by omega)
      have hla := dec_length32 an (by omega)
      unfold preJ at hI
      rw [hcI, haI] at hI
      simp only [Int.toNat_natCast] at hI
      clear hd hj hlt hc ha hcI haI
      obtain ⟨D, hD⟩ : ∃ D : ByteArray, (⟨(Lib.decDigits cn).toArray⟩ : ByteArray) = D := ⟨_, rfl⟩
      obtain ⟨E, hE⟩ : ∃ E : ByteArray, (⟨(Lib.decDigits an).toArray⟩ : ByteArray) = E := ⟨_, rfl⟩
      rw [hD] at KC
      rw [hE] at KA
      have hDz : D.size ≤ 10 := by rw [← hD]; exact hlc
      have hEz : E.size ≤ 10 := by rw [← hE]; exact hla
      have hDd : Lib.decDigits cn = D.data.toList := by rw [← hD]
      have hEd : Lib.decDigits an = E.data.toList := by rw [← hE]
      rw [hDd, hEd] at hI
      clear hlc hla hD hE hDd hEd
      generalize bD x = p2 at *
      rcases ho with ho | ho | ho | ho
      · rw [ho] at KD hI
        clear ho KA
        have HI : Hid (((⟨#[32, 32, 106, 109, 112, 32, 76]⟩ ++ D : ByteArray) ++ ⟨#[10]⟩).data.toList = lineR x n) := by
          unfold Hid lineR
          rw [hI, ba_app, ba_app]
          rfl
        have q1 : ¬ 9223372036854775807 < (⟨#[32, 32, 106, 109, 112, 32, 76]⟩ : ByteArray).size + D.size := by show ¬ 9223372036854775807 < 7 + D.size; omega
        have q2 : ¬ 9223372036854775807 < (⟨#[32, 32, 106, 109, 112, 32, 76]⟩ ++ D : ByteArray).size + (⟨#[10]⟩ : ByteArray).size := by
          rw [ByteArray.size_append]
          show ¬ 9223372036854775807 < 7 + D.size + 1
          omega
        clear hI
        go_enter Tryd.func55, Tryd.ntmps55
        go_wp2_with fail
        refine (KD.out _).mono ?_
        rintro e w1 ⟨rfl, hb1⟩
        have b1 := hb1.alloc hb1.size (.cells #[.int .i64 18, .int .i64 (an : Int), .int .i64 p2, .int .i64 (cn : Int)] 42)
        have hB1 := Blk.new w1 42 #[.int .i64 18, .int .i64 (an : Int), .int .i64 p2, .int .i64 (cn : Int)]
        go_wp2_with fail
        refine (KL.out _).mono ?_
        rintro e w2 ⟨rfl, hb2⟩
        have b2 := b1.trans (hb2.mono b1.size)
        have hB2 := hB1.below hb2 hB1.lt
        have c0 := hB2.cell 0
        go_wp2_with fail
        refine (KC.out _).mono ?_
        rintro e w3 ⟨rfl, hb3⟩
        have b3 := b2.trans (hb3.mono b2.size)
        go_wp2_with fail
        go_returns
        exact ⟨⟨_, rfl, HI⟩, b3⟩
      · rw [ho] at KD hI
        clear ho
        have HI : Hid (((((⟨#[32, 32, 106, 122, 32, 114]⟩ ++ E : ByteArray) ++ ⟨#[44, 32, 76]⟩) ++ D) ++ ⟨#[10]⟩).data.toList = lineR x n) := by
          unfold Hid lineR
          rw [hI, ba_app, ba_app, ba_app, ba_app]
          simp [shA, isOp, aT, nameI, nmT]
        have z1 : (⟨#[32, 32, 106, 122, 32, 114]⟩ ++ E : ByteArray).size = 6 + E.size := by rw [ByteArray.size_append]; rfl
        have z2 : ((⟨#[32, 32, 106, 122, 32, 114]⟩ ++ E : ByteArray) ++ ⟨#[44, 32, 76]⟩).size = 6 + E.size + 3 := by rw [ByteArray.size_append, z1]; rfl
        have z3 : (((⟨#[32, 32, 106, 122, 32, 114]⟩ ++ E : ByteArray) ++ ⟨#[44, 32, 76]⟩) ++ D).size = 6 + E.size + 3 + D.size := by rw [ByteArray.size_append, z2]
        have q1 : ¬ 9223372036854775807 < (⟨#[32, 32, 106, 122, 32, 114]⟩ : ByteArray).size + E.size := by show ¬ 9223372036854775807 < 6 + E.size; omega
        have q2 : ¬ 9223372036854775807 < (⟨#[32, 32, 106, 122, 32, 114]⟩ ++ E : ByteArray).size + (⟨#[44, 32, 76]⟩ : ByteArray).size := by
          rw [z1]
          show ¬ 9223372036854775807 < 6 + E.size + 3
          omega
        have q3 : ¬ 9223372036854775807 < ((⟨#[32, 32, 106, 122, 32, 114]⟩ ++ E : ByteArray) ++ ⟨#[44, 32, 76]⟩).size + D.size := by rw [z2]; omega
        have q4 : ¬ 9223372036854775807 < (((⟨#[32, 32, 106, 122, 32, 114]⟩ ++ E : ByteArray) ++ ⟨#[44, 32, 76]⟩) ++ D).size + (⟨#[10]⟩ : ByteArray).size := by
          rw [z3]
          show ¬ 9223372036854775807 < 6 + E.size + 3 + D.size + 1
          omega
        clear hI z1 z2 z3
        go_enter Tryd.func55, Tryd.ntmps55
        go_wp2_with fail
        refine (KD.out _).mono ?_
        rintro e w1 ⟨rfl, hb1⟩
        have b1 := hb1.alloc hb1.size (.cells #[.int .i64 19, .int .i64 (an : Int), .int .i64 p2, .int .i64 (cn : Int)] 42)
        have hB1 := Blk.new w1 42 #[.int .i64 19, .int .i64 (an : Int), .int .i64 p2, .int .i64 (cn : Int)]
        go_wp2_with fail
        refine (KL.out _).mono ?_
        rintro e w2 ⟨rfl, hb2⟩
        have b2 := b1.trans (hb2.mono b1.size)
        have hB2 := hB1.below hb2 hB1.lt
        have c0 := hB2.cell 0
        have c1 := hB2.cell 1
        go_wp2_with fail
        refine (KA.out _).mono ?_
        rintro e w3 ⟨rfl, hb3⟩
        have b3 := b2.trans (hb3.mono b2.size)
        go_wp2_with fail
        refine (KC.out _).mono ?_
        rintro e w4 ⟨rfl, hb4⟩
        have b4 := b3.trans (hb4.mono b3.size)
        go_wp2_with fail
        go_returns
        exact ⟨⟨_, rfl, HI⟩, b4⟩
      · rw [ho] at KD hI
        clear ho
        have HI : Hid (((((⟨#[32, 32, 106, 110, 122, 32, 114]⟩ ++ E : ByteArray) ++ ⟨#[44, 32, 76]⟩) ++ D) ++ ⟨#[10]⟩).data.toList = lineR x n) := by
          unfold Hid lineR
          rw [hI, ba_app, ba_app, ba_app, ba_app]
          simp [shA, isOp, aT, nameI, nmT]
        have z1 : (⟨#[32, 32, 106, 110, 122, 32, 114]⟩ ++ E : ByteArray).size = 7 + E.size := by rw [ByteArray.size_append]; rfl
        have z2 : ((⟨#[32, 32, 106, 110, 122, 32, 114]⟩ ++ E : ByteArray) ++ ⟨#[44, 32, 76]⟩).size = 7 + E.size + 3 := by rw [ByteArray.size_append, z1]; rfl
        have z3 : (((⟨#[32, 32, 106, 110, 122, 32, 114]⟩ ++ E : ByteArray) ++ ⟨#[44, 32, 76]⟩) ++ D).size = 7 + E.size + 3 + D.size := by rw [ByteArray.size_append, z2]
        have q1 : ¬ 9223372036854775807 < (⟨#[32, 32, 106, 110, 122, 32, 114]⟩ : ByteArray).size + E.size := by show ¬ 9223372036854775807 < 7 + E.size; omega
        have q2 : ¬ 9223372036854775807 < (⟨#[32, 32, 106, 110, 122, 32, 114]⟩ ++ E : ByteArray).size + (⟨#[44, 32, 76]⟩ : ByteArray).size := by
          rw [z1]
          show ¬ 9223372036854775807 < 7 + E.size + 3
          omega
        have q3 : ¬ 9223372036854775807 < ((⟨#[32, 32, 106, 110, 122, 32, 114]⟩ ++ E : ByteArray) ++ ⟨#[44, 32, 76]⟩).size + D.size := by rw [z2]; omega
        have q4 : ¬ 9223372036854775807 < (((⟨#[32, 32, 106, 110, 122, 32, 114]⟩ ++ E : ByteArray) ++ ⟨#[44, 32, 76]⟩) ++ D).size + (⟨#[10]⟩ : ByteArray).size := by
          rw [z3]
          show ¬ 9223372036854775807 < 7 + E.size + 3 + D.size + 1
          omega
        clear hI z1 z2 z3
        go_enter Tryd.func55, Tryd.ntmps55
        go_wp2_with fail
        refine (KD.out _).mono ?_
        rintro e w1 ⟨rfl, hb1⟩
        have b1 := hb1.alloc hb1.size (.cells #[.int .i64 20, .int .i64 (an : Int), .int .i64 p2, .int .i64 (cn : Int)] 42)
        have hB1 := Blk.new w1 42 #[.int .i64 20, .int .i64 (an : Int), .int .i64 p2, .int .i64 (cn : Int)]
        go_wp2_with fail
        refine (KL.out _).mono ?_
        rintro e w2 ⟨rfl, hb2⟩
        have b2 := b1.trans (hb2.mono b1.size)
        have hB2 := hB1.below hb2 hB1.lt
        have c0 := hB2.cell 0
        have c1 := hB2.cell 1
        go_wp2_with fail
        refine (KA.out _).mono ?_
        rintro e w3 ⟨rfl, hb3⟩
        have b3 := b2.trans (hb3.mono b2.size)
        go_wp2_with fail
        refine (KC.out _).mono ?_
        rintro e w4 ⟨rfl, hb4⟩
        have b4 := b3.trans (hb4.mono b3.size)
        go_wp2_with fail
        go_returns
        exact ⟨⟨_, rfl, HI⟩, b4⟩
      · rw [ho] at KD hI
        clear ho
        have HI : Hid (((((⟨#[32, 32, 99, 97, 108, 108, 32, 114]⟩ ++ E : ByteArray) ++ ⟨#[44, 32, 76]⟩) ++ D) ++ ⟨#[10]⟩).data.toList = lineR x n) := by
          unfold Hid lineR
          rw [hI, ba_app, ba_app, ba_app, ba_app]
          simp [shA, isOp, aT, nameI, nmT]
        have z1 : (⟨#[32, 32, 99, 97, 108, 108, 32, 114]⟩ ++ E : ByteArray).size = 8 + E.size := by rw [ByteArray.size_append]; rfl
        have z2 : ((⟨#[32, 32, 99, 97, 108, 108, 32, 114]⟩ ++ E : ByteArray) ++ ⟨#[44, 32, 76]⟩).size = 8 + E.size + 3 := by rw [ByteArray.size_append, z1]; rfl
        have z3 : (((⟨#[32, 32, 99, 97, 108, 108, 32, 114]⟩ ++ E : ByteArray) ++ ⟨#[44, 32, 76]⟩) ++ D).size = 8 + E.size + 3 + D.size := by rw [ByteArray.size_append, z2]
        have q1 : ¬ 9223372036854775807 < (⟨#[32, 32, 99, 97, 108, 108, 32, 114]⟩ : ByteArray).size + E.size := by show ¬ 9223372036854775807 < 8 + E.size; omega
        have q2 : ¬ 9223372036854775807 < (⟨#[32, 32, 99, 97, 108, 108, 32, 114]⟩ ++ E : ByteArray).size + (⟨#[44, 32, 76]⟩ : ByteArray).size := by
          rw [z1]
          show ¬ 9223372036854775807 < 8 + E.size + 3
          omega
        have q3 : ¬ 9223372036854775807 < ((⟨#[32, 32, 99, 97, 108, 108, 32, 114]⟩ ++ E : ByteArray) ++ ⟨#[44, 32, 76]⟩).size + D.size := by rw [z2]; omega
        have q4 : ¬ 9223372036854775807 < (((⟨#[32, 32, 99, 97, 108, 108, 32, 114]⟩ ++ E : ByteArray) ++ ⟨#[44, 32, 76]⟩) ++ D).size + (⟨#[10]⟩ : ByteArray).size := by
          rw [z3]
          show ¬ 9223372036854775807 < 8 + E.size + 3 + D.size + 1
          omega
        clear hI z1 z2 z3
        go_enter Tryd.func55, Tryd.ntmps55
        go_wp2_with fail
        refine (KD.out _).mono ?_
        rintro e w1 ⟨rfl, hb1⟩
        have b1 := hb1.alloc hb1.size (.cells #[.int .i64 21, .int .i64 (an : Int), .int .i64 p2, .int .i64 (cn : Int)] 42)
        have hB1 := Blk.new w1 42 #[.int .i64 21, .int .i64 (an : Int), .int .i64 p2, .int .i64 (cn : Int)]
        go_wp2_with fail
        refine (KL.out _).mono ?_
        rintro e w2 ⟨rfl, hb2⟩
        have b2 := b1.trans (hb2.mono b1.size)
        have hB2 := hB1.below hb2 hB1.lt
        have c0 := hB2.cell 0
        have c1 := hB2.cell 1
        go_wp2_with fail
        refine (KA.out _).mono ?_
        rintro e w3 ⟨rfl, hb3⟩
        have b3 := b2.trans (hb3.mono b2.size)
        go_wp2_with fail
        refine (KC.out _).mono ?_
        rintro e w4 ⟨rfl, hb4⟩
        have b4 := b3.trans (hb4.mono b3.size)
        go_wp2_with fail
        go_returns
        exact ⟨⟨_, rfl, HI⟩, b4⟩
end Go.Proofs.YtneebohaanjejaaDoor
