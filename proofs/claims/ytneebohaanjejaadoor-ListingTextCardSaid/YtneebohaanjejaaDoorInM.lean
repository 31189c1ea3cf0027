/- Layer 7: the document's text of an instruction, walked. -/
import Derived.Test.YtneebohaanjejaaDoorInL
import Derived.Test.YtneebohaanjejaaDoorInH
namespace Go.Proofs.YtneebohaanjejaaDoor
open Go.RowKit

/-- What a field's letter says: the words ahead of its number, and the number. -/
def fld (a b c : Nat) (x : UInt8) : ByteArray × Nat := if x = 97 then (rS, a) else if x = 98 then (rS, b) else if x = 114 then (rS, c) else (emS, c)
theorem fields_map (A B : Bool) (C : Int) (hC : C = 0 ∨ C = 1 ∨ C = 2) (a b c : Nat) : (partL A B C).map (fld a b c) = fieldsB A B C a b c := by
  rcases hC with rfl | rfl | rfl <;> cases A <;> cases B <;> rfl
theorem part_chars (A B : Bool) (C : Int) (hC : C = 0 ∨ C = 1 ∨ C = 2) : ∀ x ∈ partL A B C, x = 97 ∨ x = 98 ∨ x = 99 ∨ x = 114 := by
  rcases hC with rfl | rfl | rfl <;> cases A <;> cases B <;> decide
def sepS (k : Nat) : ByteArray := if k = 0 then spS else commaS
theorem drop_cons (l : List UInt8) (k : Nat) (h : k < l.length) : l.drop k = l[k] :: l.drop (k + 1) := List.drop_eq_getElem_cons h
theorem rest_step (l : List UInt8) (k a b c : Nat) (h : k < l.length) (t : ByteArray) :
    restS t (sepS k) ((l.drop k).map (fld a b c)) = restS (partS t (sepS k) (fld a b c l[k]).1 (fld a b c l[k]).2) (sepS (k + 1)) ((l.drop (k + 1)).map (fld a b c)) := by
  rw [drop_cons l k h, List.map_cons]
  rfl

theorem part_assoc (t s p D : ByteArray) : t ++ s ++ p ++ D = t ++ (s ++ p ++ D) := by
  rw [ByteArray.append_assoc, ByteArray.append_assoc, ByteArray.append_assoc]
theorem part_none (t s D : ByteArray) : t ++ s ++ D = t ++ (s ++ emS ++ D) := by
  apply ba_inj
  rw [ba_app, ba_app, ba_app, ba_app, ba_app, show emS.data.toList = [] from rfl, List.append_nil, List.append_assoc]

set_option maxHeartbeats 4000000 in
theorem ref_Text_ok (op : Int) (a b c : Nat) (N P : ByteArray) (w : World) (hN : N.size ≤ 4) (hPs : P.size ≤ 3) (ha : a < 65536) (hb : b < 65536) (hc : c < 65536)
    (hch : ∀ k (h : k < P.data.toList.length), P.data.toList[k] = 97 ∨ P.data.toList[k] = 98 ∨ P.data.toList[k] = 99 ∨ P.data.toList[k] = 114)
    (KR : Hid (∀ W, Calls Tryd.prog 93 #[.agg #[.int .i64 op, .int .i64 a, .int .i64 b, .int .i64 c]] W fun e w' => e = .returned (.bool true) ∧ Below W.heap.size W w'))
    (KP : Hid (∀ W, Calls Tryd.prog 101 #[.int .i64 op] W fun e w' => e = .returned (.string P) ∧ W = w'))
    (KN : Hid (∀ W, Calls Tryd.prog 92 #[.int .i64 op] W fun e w' => e = .returned (.string N) ∧ W = w')) :
    Calls Tryd.prog 82 #[.agg #[.int .i64 op, .int .i64 a, .int .i64 b, .int .i64 c]] w fun e w' => e = .returned (.string (restS N spS (P.data.toList.map (fld a b c)))) ∧ Below w.heap.size w w' := by
  have hI := Ib.new w op a b c
  have HC := Lib.hid hch
  clear hch
  go_enter Tryd.func82, Tryd.ntmps82
  go_wp2_with fail
  refine (KR.out _).mono ?_
  rintro e w1 ⟨rfl, hb1⟩
  have h1 := hI.below hb1
  obtain ⟨i0, i1, i2, i3⟩ := h1.all
  clear hb1 hI
  go_wp2_with fail
  refine (KP.out _).mono ?_
  rintro e w2 ⟨rfl, rfl⟩
  go_wp2_with fail
  refine (KN.out _).mono ?_
  rintro e w3 ⟨rfl, rfl⟩
  go_wp2_with fail
  clear i0 i1 i2 i3
  go_loopw [4, 5] (fun sv kv wr => ∃ (t : ByteArray) (k : Nat), k ≤ P.size ∧ sv = .string t ∧ kv = .int .i64 k ∧ t.size ≤ 4 + 25 * k ∧ Hid (restS t (sepS k) ((P.data.toList.drop k).map (fld a b c)) = restS N spS (P.data.toList.map (fld a b c))) ∧ Ib w op a b c wr) (fun _ kv _ => P.size - (intOf kv).toNat)
  case atStart => exact ⟨N, 0, Nat.zero_le _, rfl, rfl, by omega, rfl, h1⟩
  case round =>
    obtain ⟨t, k, hk, rfl, rfl, ht, HT, h2⟩ := hrel
    by_cases hlt : k < P.size
    · obtain ⟨x, hx⟩ : ∃ x, P[k] = x := ⟨_, rfl⟩
      have hxL : P.data.toList[k]'hlt = x := hx
      have HX := Lib.hid hxL
      have hcc := HC.out k hlt
      rw [hxL] at hcc
      have hltI : (k : Int) < P.size := by omega
      have hk0 : (0 : Int) ≤ k := by omega
      have HS := HT.out
      rw [rest_step _ k a b c hlt, hxL] at HS
      have HN := Lib.hid HS
      clear hxL HS HT
      obtain ⟨i0, i1, i2, i3⟩ := h2.all
      have HI := Lib.hid h2
      have hr : (⟨#[114]⟩ : ByteArray).size = 1 := by decide
      by_cases h0 : k = 0
      · have hq0 : ((k : Int) == 0) = true := by rw [beq_iff_eq]; omega
        have hs1 : (⟨#[32]⟩ : ByteArray).size = 1 := by decide
        have a1 : ¬ 9223372036854775807 < t.size + (⟨#[32]⟩ : ByteArray).size := by omega
        rcases hcc with rfl | rfl | rfl | rfl
        · obtain ⟨D, hD⟩ : ∃ D : ByteArray, (⟨(Lib.itoa (a : Int)).toArray⟩ : ByteArray) = D := ⟨_, rfl⟩
          have hDs := itoa_size a (by omega)
          have K := ref_number a (by omega)
          rw [hD] at hDs K
          have KH := Lib.hid K
          have HN2 : Hid (restS (t ++ ⟨#[32]⟩ ++ ⟨#[114]⟩ ++ D) (sepS (k + 1)) ((P.data.toList.drop (k + 1)).map (fld a b c)) = restS N spS (P.data.toList.map (fld a b c))) := by
            have h9 := HN.out
            rw [show (fld a b c 97).1 = rS from rfl, show (fld a b c 97).2 = a from rfl, show sepS k = ⟨#[32]⟩ from if_pos h0] at h9
            rw [part_assoc, ← hD]
            exact h9
          have H0 := Lib.hid h0
          have a2 : ¬ 9223372036854775807 < (t ++ ⟨#[32]⟩).size + (⟨#[114]⟩ : ByteArray).size := by rw [ba_append_size]; omega
          have a3 : ¬ 9223372036854775807 < (t ++ ⟨#[32]⟩ ++ ⟨#[114]⟩).size + D.size := by rw [ba_append_size, ba_append_size]; omega
          have a4 : (t ++ ⟨#[32]⟩ ++ ⟨#[114]⟩ ++ D).size ≤ 4 + 25 * (k + 1) := by rw [ba_append_size, ba_append_size, ba_append_size]; omega
          clear K hD HN h0 hDs h2
          go_wp2_with fail
          refine (KH.out _).mono ?_
          rintro e w4 ⟨rfl, hb4⟩
          have HI4 := Lib.hid (HI.out.below hb4)
          clear hb4 i0 i1 i2 i3 HI
          go_wp2_with fail
          go_roundw
          case rel => exact ⟨t ++ ⟨#[32]⟩ ++ ⟨#[114]⟩ ++ D, k + 1, hlt, rfl, rfl, a4, HN2, HI4.out⟩
          case measure => simp [intOf]; omega
        · obtain ⟨D, hD⟩ : ∃ D : ByteArray, (⟨(Lib.itoa (b : Int)).toArray⟩ : ByteArray) = D := ⟨_, rfl⟩
          have hDs := itoa_size b (by omega)
          have K := ref_number b (by omega)
          rw [hD] at hDs K
          have KH := Lib.hid K
          have HN2 : Hid (restS (t ++ ⟨#[32]⟩ ++ ⟨#[114]⟩ ++ D) (sepS (k + 1)) ((P.data.toList.drop (k + 1)).map (fld a b c)) = restS N spS (P.data.toList.map (fld a b c))) := by
            have h9 := HN.out
            rw [show (fld a b c 98).1 = rS from rfl, show (fld a b c 98).2 = b from rfl, show sepS k = ⟨#[32]⟩ from if_pos h0] at h9
            rw [part_assoc, ← hD]
            exact h9
          have H0 := Lib.hid h0
          have a2 : ¬ 9223372036854775807 < (t ++ ⟨#[32]⟩).size + (⟨#[114]⟩ : ByteArray).size := by rw [ba_append_size]; omega
          have a3 : ¬ 9223372036854775807 < (t ++ ⟨#[32]⟩ ++ ⟨#[114]⟩).size + D.size := by rw [ba_append_size, ba_append_size]; omega
          have a4 : (t ++ ⟨#[32]⟩ ++ ⟨#[114]⟩ ++ D).size ≤ 4 + 25 * (k + 1) := by rw [ba_append_size, ba_append_size, ba_append_size]; omega
          clear K hD HN h0 hDs h2
          go_wp2_with fail
          refine (KH.out _).mono ?_
          rintro e w4 ⟨rfl, hb4⟩
          have HI4 := Lib.hid (HI.out.below hb4)
          clear hb4 i0 i1 i2 i3 HI
          go_wp2_with fail
          go_roundw
          case rel => exact ⟨t ++ ⟨#[32]⟩ ++ ⟨#[114]⟩ ++ D, k + 1, hlt, rfl, rfl, a4, HN2, HI4.out⟩
          case measure => simp [intOf]; omega
        · obtain ⟨D, hD⟩ : ∃ D : ByteArray, (⟨(Lib.itoa (c : Int)).toArray⟩ : ByteArray) = D := ⟨_, rfl⟩
          have hDs := itoa_size c (by omega)
          have K := ref_number c (by omega)
          rw [hD] at hDs K
          have KH := Lib.hid K
          have HN2 : Hid (restS (t ++ ⟨#[32]⟩ ++ D) (sepS (k + 1)) ((P.data.toList.drop (k + 1)).map (fld a b c)) = restS N spS (P.data.toList.map (fld a b c))) := by
            have h9 := HN.out
            rw [show (fld a b c 99).1 = emS from rfl, show (fld a b c 99).2 = c from rfl, show sepS k = ⟨#[32]⟩ from if_pos h0] at h9
            rw [part_none, ← hD]
            exact h9
          have H0 := Lib.hid h0
          have a3 : ¬ 9223372036854775807 < (t ++ ⟨#[32]⟩).size + D.size := by rw [ba_append_size]; omega
          have a4 : (t ++ ⟨#[32]⟩ ++ D).size ≤ 4 + 25 * (k + 1) := by rw [ba_append_size, ba_append_size]; omega
          clear K hD HN h0 hDs h2
          go_wp2_with fail
          refine (KH.out _).mono ?_
          rintro e w4 ⟨rfl, hb4⟩
          have HI4 := Lib.hid (HI.out.below hb4)
          clear hb4 i0 i1 i2 i3 HI
          go_wp2_with fail
          go_roundw
          case rel => exact ⟨t ++ ⟨#[32]⟩ ++ D, k + 1, hlt, rfl, rfl, a4, HN2, HI4.out⟩
          case measure => simp [intOf]; omega
        · obtain ⟨D, hD⟩ : ∃ D : ByteArray, (⟨(Lib.itoa (c : Int)).toArray⟩ : ByteArray) = D := ⟨_, rfl⟩
          have hDs := itoa_size c (by omega)
          have K := ref_number c (by omega)
          rw [hD] at hDs K
          have KH := Lib.hid K
          have HN2 : Hid (restS (t ++ ⟨#[32]⟩ ++ ⟨#[114]⟩ ++ D) (sepS (k + 1)) ((P.data.toList.drop (k + 1)).map (fld a b c)) = restS N spS (P.data.toList.map (fld a b c))) := by
            have h9 := HN.out
            rw [show (fld a b c 114).1 = rS from rfl, show (fld a b c 114).2 = c from rfl, show sepS k = ⟨#[32]⟩ from if_pos h0] at h9
            rw [part_assoc, ← hD]
            exact h9
          have H0 := Lib.hid h0
          have a2 : ¬ 9223372036854775807 < (t ++ ⟨#[32]⟩).size + (⟨#[114]⟩ : ByteArray).size := by rw [ba_append_size]; omega
          have a3 : ¬ 9223372036854775807 < (t ++ ⟨#[32]⟩ ++ ⟨#[114]⟩).size + D.size := by rw [ba_append_size, ba_append_size]; omega
          have a4 : (t ++ ⟨#[32]⟩ ++ ⟨#[114]⟩ ++ D).size ≤ 4 + 25 * (k + 1) := by rw [ba_append_size, ba_append_size, ba_append_size]; omega
          clear K hD HN h0 hDs h2
          go_wp2_with fail
          refine (KH.out _).mono ?_
          rintro e w4 ⟨rfl, hb4⟩
          have HI4 := Lib.hid (HI.out.below hb4)
          clear hb4 i0 i1 i2 i3 HI
          go_wp2_with fail
          go_roundw
          case rel => exact ⟨t ++ ⟨#[32]⟩ ++ ⟨#[114]⟩ ++ D, k + 1, hlt, rfl, rfl, a4, HN2, HI4.out⟩
          case measure => simp [intOf]; omega
      · have hq0 : ((k : Int) == 0) = false := by rw [beq_eq_false_iff_ne]; omega
        have hs1 : (⟨#[44, 32]⟩ : ByteArray).size = 2 := by decide
        have a1 : ¬ 9223372036854775807 < t.size + (⟨#[44, 32]⟩ : ByteArray).size := by omega
        rcases hcc with rfl | rfl | rfl | rfl
        · obtain ⟨D, hD⟩ : ∃ D : ByteArray, (⟨(Lib.itoa (a : Int)).toArray⟩ : ByteArray) = D := ⟨_, rfl⟩
          have hDs := itoa_size a (by omega)
          have K := ref_number a (by omega)
          rw [hD] at hDs K
          have KH := Lib.hid K
          have HN2 : Hid (restS (t ++ ⟨#[44, 32]⟩ ++ ⟨#[114]⟩ ++ D) (sepS (k + 1)) ((P.data.toList.drop (k + 1)).map (fld a b c)) = restS N spS (P.data.toList.map (fld a b c))) := by
            have h9 := HN.out
            rw [show (fld a b c 97).1 = rS from rfl, show (fld a b c 97).2 = a from rfl, show sepS k = ⟨#[44, 32]⟩ from if_neg h0] at h9
            rw [part_assoc, ← hD]
            exact h9
          have H0 := Lib.hid h0
          have a2 : ¬ 9223372036854775807 < (t ++ ⟨#[44, 32]⟩).size + (⟨#[114]⟩ : ByteArray).size := by rw [ba_append_size]; omega
          have a3 : ¬ 9223372036854775807 < (t ++ ⟨#[44, 32]⟩ ++ ⟨#[114]⟩).size + D.size := by rw [ba_append_size, ba_append_size]; omega
          have a4 : (t ++ ⟨#[44, 32]⟩ ++ ⟨#[114]⟩ ++ D).size ≤ 4 + 25 * (k + 1) := by rw [ba_append_size, ba_append_size, ba_append_size]; omega
          clear K hD HN h0 hDs h2
          go_wp2_with fail
          refine (KH.out _).mono ?_
          rintro e w4 ⟨rfl, hb4⟩
          have HI4 := Lib.hid (HI.out.below hb4)
          clear hb4 i0 i1 i2 i3 HI
          go_wp2_with fail
          go_roundw
          case rel => exact ⟨t ++ ⟨#[44, 32]⟩ ++ ⟨#[114]⟩ ++ D, k + 1, hlt, rfl, rfl, a4, HN2, HI4.out⟩
          case measure => simp [intOf]; omega
        · obtain ⟨D, hD⟩ : ∃ D : ByteArray, (⟨(Lib.itoa (b : Int)).toArray⟩ : ByteArray) = D := ⟨_, rfl⟩
          have hDs := itoa_size b (by omega)
          have K := ref_number b (by omega)
          rw [hD] at hDs K
          have KH := Lib.hid K
          have HN2 : Hid (restS (t ++ ⟨#[44, 32]⟩ ++ ⟨#[114]⟩ ++ D) (sepS (k + 1)) ((P.data.toList.drop (k + 1)).map (fld a b c)) = restS N spS (P.data.toList.map (fld a b c))) := by
            have h9 := HN.out
            rw [show (fld a b c 98).1 = rS from rfl, show (fld a b c 98).2 = b from rfl, show sepS k = ⟨#[44, 32]⟩ from if_neg h0] at h9
            rw [part_assoc, ← hD]
            exact h9
          have H0 := Lib.hid h0
          have a2 : ¬ 9223372036854775807 < (t ++ ⟨#[44, 32]⟩).size + (⟨#[114]⟩ : ByteArray).size := by rw [ba_append_size]; omega
          have a3 : ¬ 9223372036854775807 < (t ++ ⟨#[44, 32]⟩ ++ ⟨#[114]⟩).size + D.size := by rw [ba_append_size, ba_append_size]; omega
          have a4 : (t ++ ⟨#[44, 32]⟩ ++ ⟨#[114]⟩ ++ D).size ≤ 4 + 25 * (k + 1) := by rw [ba_append_size, ba_append_size, ba_append_size]; omega
          clear K hD HN h0 hDs h2
          go_wp2_with fail
          refine (KH.out _).mono ?_
          rintro e w4 ⟨rfl, hb4⟩
          have HI4 := Lib.hid (HI.out.below hb4)
          clear hb4 i0 i1 i2 i3 HI
          go_wp2_with fail
          go_roundw
          case rel => exact ⟨t ++ ⟨#[44, 32]⟩ ++ ⟨#[114]⟩ ++ D, k + 1, hlt, rfl, rfl, a4, HN2, HI4.out⟩
          case measure => simp [intOf]; omega
        · obtain ⟨D, hD⟩ : ∃ D : ByteArray, (⟨(Lib.itoa (c : Int)).toArray⟩ : ByteArray) = D := ⟨_, rfl⟩
          have hDs := itoa_size c (by omega)
          have K := ref_number c (by omega)
          rw [hD] at hDs K
          have KH := Lib.hid K
          have HN2 : Hid (restS (t ++ ⟨#[44, 32]⟩ ++ D) (sepS (k + 1)) ((P.data.toList.drop (k + 1)).map (fld a b c)) = restS N spS (P.data.toList.map (fld a b c))) := by
            have h9 := HN.out
            rw [show (fld a b c 99).1 = emS from rfl, show (fld a b c 99).2 = c from rfl, show sepS k = ⟨#[44, 32]⟩ from if_neg h0] at h9
            rw [part_none, ← hD]
            exact h9
          have H0 := Lib.hid h0
          have a3 : ¬ 9223372036854775807 < (t ++ ⟨#[44, 32]⟩).size + D.size := by rw [ba_append_size]; omega
          have a4 : (t ++ ⟨#[44, 32]⟩ ++ D).size ≤ 4 + 25 * (k + 1) := by rw [ba_append_size, ba_append_size]; omega
          clear K hD HN h0 hDs h2
          go_wp2_with fail
          refine (KH.out _).mono ?_
          rintro e w4 ⟨rfl, hb4⟩
          have HI4 := Lib.hid (HI.out.below hb4)
          clear hb4 i0 i1 i2 i3 HI
          go_wp2_with fail
          go_roundw
          case rel => exact ⟨t ++ ⟨#[44, 32]⟩ ++ D, k + 1, hlt, rfl, rfl, a4, HN2, HI4.out⟩
          case measure => simp [intOf]; omega
        · obtain ⟨D, hD⟩ : ∃ D : ByteArray, (⟨(Lib.itoa (c : Int)).toArray⟩ : ByteArray) = D := ⟨_, rfl⟩
          have hDs := itoa_size c (by omega)
          have K := ref_number c (by omega)
          rw [hD] at hDs K
          have KH := Lib.hid K
          have HN2 : Hid (restS (t ++ ⟨#[44, 32]⟩ ++ ⟨#[114]⟩ ++ D) (sepS (k + 1)) ((P.data.toList.drop (k + 1)).map (fld a b c)) = restS N spS (P.data.toList.map (fld a b c))) := by
            have h9 := HN.out
            rw [show (fld a b c 114).1 = rS from rfl, show (fld a b c 114).2 = c from rfl, show sepS k = ⟨#[44, 32]⟩ from if_neg h0] at h9
            rw [part_assoc, ← hD]
            exact h9
          have H0 := Lib.hid h0
          have a2 : ¬ 9223372036854775807 < (t ++ ⟨#[44, 32]⟩).size + (⟨#[114]⟩ : ByteArray).size := by rw [ba_append_size]; omega
          have a3 : ¬ 9223372036854775807 < (t ++ ⟨#[44, 32]⟩ ++ ⟨#[114]⟩).size + D.size := by rw [ba_append_size, ba_append_size]; omega
          have a4 : (t ++ ⟨#[44, 32]⟩ ++ ⟨#[114]⟩ ++ D).size ≤ 4 + 25 * (k + 1) := by rw [ba_append_size, ba_append_size, ba_append_size]; omega
          clear K hD HN h0 hDs h2
          go_wp2_with fail
          refine (KH.out _).mono ?_
          rintro e w4 ⟨rfl, hb4⟩
          have HI4 := Lib.hid (HI.out.below hb4)
          clear hb4 i0 i1 i2 i3 HI
          go_wp2_with fail
          go_roundw
          case rel => exact ⟨t ++ ⟨#[44, 32]⟩ ++ ⟨#[114]⟩ ++ D, k + 1, hlt, rfl, rfl, a4, HN2, HI4.out⟩
          case measure => simp [intOf]; omega
    · obtain rfl : k = P.size := by omega
      have HR : Hid (t = restS N spS (P.data.toList.map (fld a b c))) := by
        have h9 := HT.out
        rw [show P.data.toList.drop P.size = [] from List.drop_of_length_le (Nat.le_refl P.data.toList.length)] at h9
        exact h9
      have HI := Lib.hid h2
      clear HT h2
      go_wp2_with fail
      go_returns
      exact ⟨congrArg (fun s => Ending.returned (Value.string s)) HR.out, HI.out.bel⟩

theorem ref_Text (op a b c : Int) (w : World) :
    Calls Tryd.prog 82 #[.agg #[.int .i64 op, .int .i64 a, .int .i64 b, .int .i64 c]] w fun e w' => e = .returned (.string (textB op a b c)) ∧ Below w.heap.size w w' := by
  unfold textB
  cases h : rightI op a b c with
  | false =>
    rw [if_neg (by decide)]
    have KR : Hid (∀ W, Calls Tryd.prog 93 #[.agg #[.int .i64 op, .int .i64 a, .int .i64 b, .int .i64 c]] W fun e w' => e = .returned (.bool false) ∧ Below W.heap.size W w') := by
      intro W
      have h2 := ref07_Right op a b c W
      rw [h] at h2
      exact h2
    have hI := Ib.new w op a b c
    clear h
    go_enter Tryd.func82, Tryd.ntmps82
    go_wp2_with fail
    refine (KR.out _).mono ?_
    rintro e w1 ⟨rfl, hb1⟩
    go_wp2_with fail
    go_returns
    exact ⟨rfl, (hI.below hb1).bel⟩
  | true =>
    rw [if_pos rfl]
    obtain ⟨hio, ⟨a1, a2⟩, ⟨b1, b2⟩, ⟨c1, c2⟩⟩ := right_bounds h
    have KR : Hid (∀ W, Calls Tryd.prog 93 #[.agg #[.int .i64 op, .int .i64 a, .int .i64 b, .int .i64 c]] W fun e w' => e = .returned (.bool true) ∧ Below W.heap.size W w') := by
      intro W
      have h2 := ref07_Right op a b c W
      rw [h] at h2
      exact h2
    obtain ⟨k, k1, k2, rfl⟩ := op_cases op hio
    obtain ⟨A, rfl⟩ : ∃ A : Nat, a = A := ⟨a.toNat, by omega⟩
    obtain ⟨B, rfl⟩ : ∃ B : Nat, b = B := ⟨b.toNat, by omega⟩
    obtain ⟨C, rfl⟩ : ∃ C : Nat, c = C := ⟨c.toNat, by omega⟩
    simp only [Int.toNat_natCast]
    have hC := shC_cases (k : Int)
    have hN : (⟨(nameI (k : Int)).toArray⟩ : ByteArray).size ≤ 4 := name_size k (by omega)
    have hpI : partsI (k : Int) = partL (shA k) (shB k) (shC k) := if_pos hio
    have hPs : (⟨(partsI (k : Int)).toArray⟩ : ByteArray).size ≤ 3 := by
      have h9 := (part_has (shA k) (shB k) (shC k) hC).2.2.2.2.2
      rw [← hpI] at h9
      exact h9
    have key := ref_Text_ok k A B C ⟨(nameI (k : Int)).toArray⟩ ⟨(partsI (k : Int)).toArray⟩ w hN hPs (by omega) (by omega) (by omega)
      (fun j hj => part_chars (shA k) (shB k) (shC k) hC _ (hpI ▸ List.getElem_mem hj)) KR (ref_Parts k) (ref_Name k)
    rw [← fields_map (shA k) (shB k) (shC k) hC, ← hpI]
    exact key
end Go.Proofs.YtneebohaanjejaaDoor
