/- Layer 1: a word's decimal text, walked, with strconv.FormatUint: beside chapter 7's texts. -/
/- Layer 11: a number's and a word's text, walked: the program's. -/
import Derived.Lib.ItoaMem
import Derived.Lib.AppendIntMem
import Derived.Lib.LaidTab
import Derived.WalkSmall
import Derived.Lib.Strings
import Derived.Test.YtknonabeagbjeaaGreatDoorInJ
import Derived.Test.YtknonabeagbjeaaGreatDoorLm
import Derived.Test.YtknonabeagbjeaaGreatDoorLj
namespace Go.Proofs.YtknonabeagbjeaaGreatDoor
open Go.RowKit

theorem plain_add (b o i : Nat) : (⟨b, o, none⟩ : Addr).add i = ⟨b, o + i, none⟩ := by unfold Addr.add; split <;> simp_all
set_option maxRecDepth 100000 in
set_option maxHeartbeats 1000000 in
theorem FormatUint10 (u : Nat) (hu : u < 4294967296) (w : World) (hp : Pow10 w) :
    Calls Tryz.prog 72 #[.int .u64 (u : Int), .int .i64 10] w fun e w' => e = .returned (.string ⟨(Lib.decDigits u).toArray⟩) ∧ Below w.heap.size w w' := by
  by_cases hs : u < 100
  · have hsI : (u : Int) < 100 := by omega
    have K := internal_strconv_small u hs
    have KH := Lib.hid K
    clear K hs
    go_enter Tryz.func72, Tryz.ntmps72
    go_wp2_with fail
    refine (KH.out _).mono ?_
    rintro e w1 ⟨rfl, rfl⟩
    go_wp2_with fail
    go_returns
    exact ⟨rfl, Below.refl _ _⟩
  · have hsI : ¬ (u : Int) < 100 := by omega
    have hu1 : 1 ≤ u := by omega
    have hu64 : u < 18446744073709551616 := by omega
    have hnd20 : Lib.nDigits u ≤ 20 := by have := Lib.numDigits_eq u hu1 hu64; split at this <;> omega
    have hal : Tryz.prog.arrayLen 126 = 24 := by kernel_rfl
    have hsl1 : ∀ W, (Instr.sliceAt 126 (.pointer (some ⟨w.heap.size, 0, none⟩)) none (some (.int .i64 (Lib.nDigits u : Int))) none).run Tryz.prog W = .ok (.slice (some ⟨w.heap.size, 0, none⟩) (Lib.nDigits u) 24) W := fun W => by
      rw [run_sliceAt_array_h W 126 ⟨w.heap.size, 0, none⟩ Tryz.underlying126 .i64 (Lib.nDigits u : Int) (by omega) (by rw [hal]; omega)]
      go_simp
    have hH0 := Lib.holds_zero0 w 126 (Lib.nDigits u) (by omega)
    have hfmt := internal_strconv_formatBase10 w.heap.size 0 24 u (Array.replicate (Lib.nDigits u) 0) (w.alloc (.cells Lib.zeros24 126)) hH0 (by rw [Array.size_replicate]; exact Lib.lt_pow_nDigits u) hu64 (by rw [Array.size_replicate]; omega)
    rw [Array.size_replicate] at hfmt
    have HH0 := Lib.hid hH0
    have hnum := Lib.hid (fun W h => internal_strconv_numDigits u hu1 hu64 W h)
    have hfm := Lib.hid hfmt
    clear hH0 hal hs hfmt
    go_enter Tryz.func72, Tryz.ntmps72
    go_wp2_with fail
    refine (hnum.out _ (Lib.tabIs_alloc hp.2 _)).mono ?_
    rintro e w1 ⟨rfl, rfl⟩
    go_wp2_with fail
    refine hfm.out.mono ?_
    rintro e w2 ⟨rfl, k, v', dk, rfl, hF⟩
    have hcv : (convert 45 9 (.slice (some ⟨w.heap.size, 0, none⟩) (Lib.nDigits u) 24)).run Tryz.prog ((Go.Sort.putRow (fun (b : UInt8) => Value.int .u8 (b.toNat : Int)) (w.alloc (.cells Lib.zeros24 126)) w.heap.size 0 dk).drewN k) = .ok (.string ⟨(Lib.decDigits u).toArray⟩) ((Go.Sort.putRow (fun (b : UInt8) => Value.int .u8 (b.toNat : Int)) (w.alloc (.cells Lib.zeros24 126)) w.heap.size 0 dk).drewN k) := by
      have h := run_convert_bytes_back (P := Tryz.prog) ((Go.Sort.putRow (fun (b : UInt8) => Value.int .u8 (b.toNat : Int)) (w.alloc (.cells Lib.zeros24 126)) w.heap.size 0 dk).drewN k) 45 9 5 ⟨w.heap.size, 0, none⟩ 24 (Lib.decDigits u) Tryz.underlying45 Tryz.underlying5 Tryz.underlying9 (fun j hj => by
        rw [Lib.row_is_numeral hF j hj, plain_add, World.cell?_drewN]
        exact Go.Sort.cell?_putRow (fun (b : UInt8) => Value.int .u8 (b.toNat : Int)) _ w.heap.size 0 _ dk HH0.out (by rw [hF.size, Array.size_replicate]) j (by rw [hF.size]; rw [Lib.decDigits_length] at hj; exact hj))
      rw [Lib.decDigits_length] at h
      exact h
    have hbel : Below w.heap.size w ((Go.Sort.putRow (fun (b : UInt8) => Value.int .u8 (b.toNat : Int)) (w.alloc (.cells Lib.zeros24 126)) w.heap.size 0 dk).drewN k) := by
      obtain ⟨os, e⟩ := Lib.fin_at w (.cells Lib.zeros24 126) dk k 0
      rw [e]
      exact Lib.below_grow _ w (Nat.le_refl _) k os
    clear hnum hfm HH0 hF
    go_wp2_with fail
    go_returns
    exact ⟨rfl, hbel⟩

theorem sc_FormatUint10 (u : Nat) (hu : u < 4294967296) (w : World) (hp : Pow10 w) :
    Calls Tryz.prog 45 #[.int .u64 (u : Int), .int .i64 10] w fun e w' => e = .returned (.string ⟨(Lib.decDigits u).toArray⟩) ∧ Below w.heap.size w w' := by
  have K := FormatUint10 u hu w hp
  obtain ⟨T, hT⟩ : ∃ T : ByteArray, (⟨(Lib.decDigits u).toArray⟩ : ByteArray) = T := ⟨_, rfl⟩
  rw [hT] at K ⊢
  have KH := Lib.hid K
  clear K hp hT
  go_enter Tryz.func45, Tryz.ntmps45
  go_wp2_with fail
  refine KH.out.mono ?_
  rintro e w1 ⟨rfl, hb⟩
  go_wp2_with fail
  go_returns
  exact ⟨rfl, hb⟩
theorem word_Text (n : UInt32) (w : World) (hp : Pow10 w) :
    Calls Tryz.prog 25 #[.int .u32 n.toNat] w fun e w' => e = .returned (.string ⟨(Lib.decDigits n.toNat).toArray⟩) ∧ Below w.heap.size w w' := by
  have hn := n.toNat_lt
  have K := sc_FormatUint10 n.toNat (by omega) w hp
  obtain ⟨T, hT⟩ : ∃ T : ByteArray, (⟨(Lib.decDigits n.toNat).toArray⟩ : ByteArray) = T := ⟨_, rfl⟩
  rw [hT] at K ⊢
  have KH := Lib.hid K
  clear K hp hT
  go_enter Tryz.func25, Tryz.ntmps25
  go_wp2_with fail
  refine KH.out.mono ?_
  rintro e w1 ⟨rfl, hb⟩
  go_wp2_with fail
  go_returns
  exact ⟨rfl, hb⟩
end Go.Proofs.YtknonabeagbjeaaGreatDoor
namespace Go.Proofs.YtknonabeagbjeaaGreatDoor
open Go.RowKit

/-- A jump's text up to its place. -/
def preJ (x : UInt32) : List UInt8 := nameI (opD x) ++ (if shA (opD x) then [32, 114] ++ (Lib.decDigits (aD x).toNat ++ [44, 32]) else [32])
theorem jmp_shape {x : UInt32} (h : jmpB x = true) : decB x = true ∧ shB (opD x) = false ∧ shC (opD x) = 1 ∧ (nameI (opD x)).length ≤ 4 := by
  rcases jmp_cases x with ⟨_, hj⟩ | ⟨_, hj, _⟩ | ⟨hd, _, ho⟩
  · rw [hj] at h; exact absurd h (by decide)
  · rw [hj] at h; exact absurd h (by decide)
  · refine ⟨hd, ?_⟩
    rcases ho with e | e | e | e <;> rw [e] <;> decide
theorem fldJ_not {x : UInt32} (n : Nat) (h : (jmpB x && decide (cD x < (n : Int))) = false) : fldJ x n = fieldsB (shA (opD x)) (shB (opD x)) (shC (opD x)) (aD x).toNat (bD x).toNat (cD x).toNat := by
  unfold fldJ fieldsB
  rw [h]
  rfl
theorem text_data {x : UInt32} (h : decB x = true) : (textB (opD x) (aD x) (bD x) (cD x)).data.toList = nameI (opD x) ++ tailL [32] (fieldsB (shA (opD x)) (shB (opD x)) (shC (opD x)) (aD x).toNat (bD x).toNat (cD x).toNat) := by
  unfold textB
  rw [if_pos (show rightI _ _ _ _ = true from h), rest_tail]
  rfl
theorem item_plain {x : UInt32} {n : Nat} (h : decB x = true) (hn : (jmpB x && decide (cD x < (n : Int))) = false) : itemL x n = (textB (opD x) (aD x) (bD x) (cD x)).data.toList := by
  unfold itemL
  rw [if_pos h, text_data h, fldJ_not n hn]
theorem text_jump {x : UInt32} (h : jmpB x = true) : (textB (opD x) (aD x) (bD x) (cD x)).data.toList = preJ x ++ Lib.decDigits (cD x).toNat := by
  obtain ⟨hd, hB, hC, _⟩ := jmp_shape h
  rw [text_data hd, hB, hC]
  unfold preJ fieldsB
  cases shA (opD x) <;> simp [tailL, rS, emS]
theorem item_jump {x : UInt32} {n : Nat} (h : jmpB x = true) (hn : cD x < (n : Int)) : itemL x n = preJ x ++ [76] ++ Lib.decDigits (cD x).toNat := by
  obtain ⟨hd, hB, hC, _⟩ := jmp_shape h
  unfold itemL
  rw [if_pos hd]
  unfold fldJ preJ
  rw [hB, hC, h, decide_eq_true hn]
  cases shA (opD x) <;> simp [tailL, rS, lS]
theorem cD_lt (x : UInt32) : 0 ≤ cD x ∧ cD x < 65536 := by unfold cD; omega
theorem aD_lt (x : UInt32) : 0 ≤ aD x ∧ aD x < 16 := by unfold aD; omega
theorem preJ_len {x : UInt32} (h : jmpB x = true) : (preJ x).length ≤ 20 := by
  obtain ⟨_, _, _, hN⟩ := jmp_shape h
  have ha := aD_lt x
  have hd := dec_length32 (aD x).toNat (by omega)
  unfold preJ
  rw [List.length_append]
  split
  · simp only [List.length_append, List.length_cons, List.length_nil]; omega
  · simp only [List.length_cons, List.length_nil]; omega
theorem trim_suffix (p d : List UInt8) : Lib.trimSuffix (p ++ d) d = p := by
  unfold Lib.trimSuffix
  have h : Lib.hasSuffix (p ++ d) d = true := by
    unfold Lib.hasSuffix
    simp
  rw [if_pos h, List.length_append, Nat.add_sub_cancel, List.take_left]

theorem listing_decimal (n : Nat) (hn : n < 4294967296) (w : World) (hp : Pow10 w) :
    Calls Tryz.prog 14 #[.int .i64 (n : Int)] w fun e w' => e = .returned (.string ⟨(Lib.decDigits n).toArray⟩) ∧ Below w.heap.size w w' := by
  have e : (UInt32.ofNat n).toNat = n := by rw [UInt32.toNat_ofNat']; omega
  have K := word_Text (UInt32.ofNat n) w hp
  rw [e] at K
  have hw : IntKind.u32.wrap (n : Int) = n := by rw [IntKind.wrap_u32']; omega
  obtain ⟨T, hT⟩ : ∃ T : ByteArray, (⟨(Lib.decDigits n).toArray⟩ : ByteArray) = T := ⟨_, rfl⟩
  rw [hT] at K ⊢
  have KH := Lib.hid K
  clear K hp hT e
  go_enter Tryz.func14, Tryz.ntmps14
  go_wp2_with fail
  refine KH.out.mono ?_
  rintro e w1 ⟨rfl, hb⟩
  go_wp2_with fail
  go_returns
  exact ⟨rfl, hb⟩

set_option maxHeartbeats 2000000 in
theorem listing_textOf (code : List UInt32) (x : UInt32) (b : Nat) (w : World) (hx : x ∈ code) (hM : Tm w b code code.length) (hp : Pow10 w) (_hn : code.length ≤ 20000) :
    Calls Tryz.prog 15 #[.int .u32 x.toNat, .map (some b)] w fun e w' => (∃ t, e = .returned (.string t) ∧ Hid (t.data.toList = itemL x code.length)) ∧ Below w.heap.size w w' := by
  cases hd : decB x with
  | false =>
    have KD := Lib.hid (fun W => inst_Decode_bad x W hd)
    have KT := Lib.hid (fun W h => word_Text x W h)
    have hit : itemL x code.length = [46, 119, 111, 114, 100, 32] ++ Lib.decDigits x.toNat := by unfold itemL; rw [if_neg (by rw [hd]; decide)]
    have hl := dec_length32 x.toNat x.toNat_lt
    obtain ⟨T, hT⟩ : ∃ T : ByteArray, (⟨(Lib.decDigits x.toNat).toArray⟩ : ByteArray) = T := ⟨_, rfl⟩
    rw [hT] at KT
    have hTz : T.size ≤ 10 := by rw [← hT]; exact hl
    have HI : Hid ((⟨#[46, 119, 111, 114, 100, 32]⟩ ++ T : ByteArray).data.toList = itemL x code.length) := by
      unfold Hid
      rw [hit, ba_app, ← hT]
    have q1 : ¬ 9223372036854775807 < (⟨#[46, 119, 111, 114, 100, 32]⟩ : ByteArray).size + T.size := by show ¬ 9223372036854775807 < 6 + T.size; omega
    clear hd hit hl hT hM
    go_enter Tryz.func15, Tryz.ntmps15
    go_wp2_with fail
    refine (KD.out _).mono ?_
    rintro e w1 ⟨rfl, hb1⟩
    have b1 := hb1.alloc hb1.size (.cells #[.int .i64 0, .int .i64 0, .int .i64 0, .int .i64 0] 70)
    have hp1 := hp.below b1
    go_wp2_with fail
    refine (KT.out _ hp1).mono ?_
    rintro e w2 ⟨rfl, hb2⟩
    have b2 := b1.trans (hb2.mono b1.size)
    go_wp2_with fail
    go_returns
    exact ⟨⟨_, rfl, HI⟩, b2⟩
  | true =>
    have KD := Lib.hid (fun W => inst_Decode_ok x W hd)
    have KT := Lib.hid (fun W h => inst_Text (opD x) (aD x) (bD x) (cD x) W h)
    have KL := Lib.hid (listing_leads x)
    cases hj : jmpB x with
    | false =>
      rw [hj, lead_false hj] at KL
      have HI := Lib.hid (item_plain (n := code.length) hd (by rw [hj]; rfl)).symm
      clear hd hj hM
      generalize textB (opD x) (aD x) (bD x) (cD x) = T at KT HI
      generalize opD x = o at *
      generalize aD x = p1 at *
      generalize bD x = p2 at *
      generalize cD x = p3 at *
      go_enter Tryz.func15, Tryz.ntmps15
      go_wp2_with fail
      refine (KD.out _).mono ?_
      rintro e w1 ⟨rfl, hb1⟩
      have b1 := hb1.alloc hb1.size (.cells #[.int .i64 o, .int .i64 p1, .int .i64 p2, .int .i64 p3] 70)
      have hp1 := hp.below b1
      have hB1 := Blk.new w1 70 #[.int .i64 o, .int .i64 p1, .int .i64 p2, .int .i64 p3]
      have c0 := hB1.cell 0
      have c1 := hB1.cell 1
      have c2 := hB1.cell 2
      have c3 := hB1.cell 3
      go_wp2_with fail
      refine (KT.out _ hp1).mono ?_
      rintro e w2 ⟨rfl, hb2⟩
      have b2 := b1.trans (hb2.mono b1.size)
      clear c0 c1 c2 c3 hB1
      go_wp2_with fail
      refine (KL.out _).mono ?_
      rintro e w3 ⟨rfl, hb3⟩
      have b3 := b2.trans (hb3.mono b2.size)
      go_wp2_with fail
      go_returns
      exact ⟨⟨_, rfl, HI⟩, b3⟩
    | true =>
      rw [hj, lead_true hj] at KL
      have hc := cD_lt x
      have hset : setB code code.length (cD x) = decide (cD x < (code.length : Int)) := by
        rw [show cD x = (((cD x).toNat : Nat) : Int) by omega, setB_all, isT_of hx hj (by omega)]
        by_cases h : (cD x).toNat < code.length
        · rw [decide_eq_true h, decide_eq_true (by omega)]; rfl
        · rw [decide_eq_false h, decide_eq_false (by omega)]; rfl
      have hwf : (Lit.int .i64 (cD x)).wf = true := WalkArith.wf_i64 (by omega)
      have HT := Lib.hid (text_jump hj)
      have HP := Lib.hid (preJ_len hj)
      obtain ⟨cn, hcI⟩ : ∃ cn : Nat, cD x = (cn : Int) := ⟨(cD x).toNat, by omega⟩
      have hcn : cn < 65536 := by omega
      by_cases hlt : cD x < (code.length : Int)
      · have HI := Lib.hid (item_jump (n := code.length) hj hlt)
        rw [decide_eq_true hlt] at hset
        clear hd hc hlt hj
        rw [hcI] at KD KL KT HT HI hset hwf
        rw [Int.toNat_natCast] at HT HI
        clear hcI
        generalize textB (opD x) (aD x) (bD x) (cn : Int) = T at KT HT
        generalize opD x = o at *
        generalize aD x = p1 at *
        generalize bD x = p2 at *
        have KM : Hid (∀ W : World, Below w.heap.size w W → (Instr.lookup 54 (.map (some b)) (.int .i64 (cn : Int)) false).run Tryz.prog W = .ok (.bool true) W) := fun W h => by
          have h2 := (hM.below rfl h).look (cn : Int) hwf
          rw [hset] at h2
          exact h2
        have KC := Lib.hid (fun W h => listing_decimal cn (by omega) W h)
        have hl := dec_length32 cn (by omega)
        obtain ⟨D, hD⟩ : ∃ D : ByteArray, (⟨(Lib.decDigits cn).toArray⟩ : ByteArray) = D := ⟨_, rfl⟩
        rw [hD] at KC
        have hDd : D.data.toList = Lib.decDigits cn := by rw [← hD]
        have hDz : D.size ≤ 10 := by rw [← hD]; exact hl
        obtain ⟨P, hP⟩ : ∃ P : ByteArray, (⟨(preJ x).toArray⟩ : ByteArray) = P := ⟨_, rfl⟩
        have hPz : P.size ≤ 20 := by rw [← hP]; exact HP.out
        have hTz : T.size ≤ 9223372036854775807 := by
          have e : T.data.toList.length = T.size := rfl
          have e2 := HP.out
          rw [HT.out, List.length_append] at e
          omega
        have KR : Hid (∀ W : World, Calls Tryz.prog 28 #[.string T, .string D] W fun e w' => e = .returned (.string P) ∧ w' = W) := fun W => by
          have h := strings_TrimSuffix T D W hTz
          rw [HT.out, hDd, trim_suffix, hP] at h
          exact h
        have HF : Hid ((P ++ ⟨#[76]⟩ ++ D : ByteArray).data.toList = itemL x code.length) := by
          unfold Hid
          rw [HI.out, ba_app, ba_app, hDd, ← hP]
        have q1 : ¬ 9223372036854775807 < P.size + (⟨#[76]⟩ : ByteArray).size := by show ¬ 9223372036854775807 < P.size + 1; omega
        have q2 : ¬ 9223372036854775807 < (P ++ (⟨#[76]⟩ : ByteArray)).size + D.size := by
          have e : (P ++ (⟨#[76]⟩ : ByteArray)).size = P.size + 1 := by rw [ByteArray.size_append]; rfl
          rw [e]; omega
        clear hl hD hDd hP hTz hM hset hwf HT HI HP
        go_enter Tryz.func15, Tryz.ntmps15
        go_wp2_with fail
        refine (KD.out _).mono ?_
        rintro e w1 ⟨rfl, hb1⟩
        have b1 := hb1.alloc hb1.size (.cells #[.int .i64 o, .int .i64 p1, .int .i64 p2, .int .i64 (cn : Int)] 70)
        have hp1 := hp.below b1
        have hB1 := Blk.new w1 70 #[.int .i64 o, .int .i64 p1, .int .i64 p2, .int .i64 (cn : Int)]
        have c0 := hB1.cell 0
        have c1 := hB1.cell 1
        have c2 := hB1.cell 2
        have c3 := hB1.cell 3
        go_wp2_with fail
        refine (KT.out _ hp1).mono ?_
        rintro e w2 ⟨rfl, hb2⟩
        have b2 := b1.trans (hb2.mono b1.size)
        clear c0 c1 c2 c3 hB1
        go_wp2_with fail
        refine (KL.out _).mono ?_
        rintro e w3 ⟨rfl, hb3⟩
        have b3 := b2.trans (hb3.mono b2.size)
        have hlook := KM.out w3 b3
        go_wp2_with fail
        refine (KC.out _ (hp.below b3)).mono ?_
        rintro e w4 ⟨rfl, hb4⟩
        have b4 := b3.trans (hb4.mono b3.size)
        go_wp2_with fail
        refine (KR.out _).mono ?_
        rintro e w4 ⟨rfl, rfl⟩
        go_wp2_with fail
        refine (KC.out _ (hp.below b4)).mono ?_
        rintro e w5 ⟨rfl, hb5⟩
        have b5 := b4.trans (hb5.mono b4.size)
        go_wp2_with fail
        go_returns
        exact ⟨⟨_, rfl, HF⟩, b5⟩
      · have HI := Lib.hid (item_plain (n := code.length) hd (by rw [decide_eq_false hlt, Bool.and_false])).symm
        rw [decide_eq_false hlt] at hset
        clear hd hc hlt hj HT HP
        rw [hcI] at KD KL KT HI hset hwf
        clear hcI
        generalize textB (opD x) (aD x) (bD x) (cn : Int) = T at KT HI
        generalize opD x = o at *
        generalize aD x = p1 at *
        generalize bD x = p2 at *
        have KM : Hid (∀ W : World, Below w.heap.size w W → (Instr.lookup 54 (.map (some b)) (.int .i64 (cn : Int)) false).run Tryz.prog W = .ok (.bool false) W) := fun W h => by
          have h2 := (hM.below rfl h).look (cn : Int) hwf
          rw [hset] at h2
          exact h2
        clear hM hset hwf
        go_enter Tryz.func15, Tryz.ntmps15
        go_wp2_with fail
        refine (KD.out _).mono ?_
        rintro e w1 ⟨rfl, hb1⟩
        have b1 := hb1.alloc hb1.size (.cells #[.int .i64 o, .int .i64 p1, .int .i64 p2, .int .i64 (cn : Int)] 70)
        have hp1 := hp.below b1
        have hB1 := Blk.new w1 70 #[.int .i64 o, .int .i64 p1, .int .i64 p2, .int .i64 (cn : Int)]
        have c0 := hB1.cell 0
        have c1 := hB1.cell 1
        have c2 := hB1.cell 2
        have c3 := hB1.cell 3
        go_wp2_with fail
        refine (KT.out _ hp1).mono ?_
        rintro e w2 ⟨rfl, hb2⟩
        have b2 := b1.trans (hb2.mono b1.size)
        clear c0 c1 c2 c3 hB1
        go_wp2_with fail
        refine (KL.out _).mono ?_
        rintro e w3 ⟨rfl, hb3⟩
        have b3 := b2.trans (hb3.mono b2.size)
        have hlook := KM.out w3 b3
        go_wp2_with fail
        go_returns
        exact ⟨⟨_, rfl, HI⟩, b3⟩
end Go.Proofs.YtknonabeagbjeaaGreatDoor
