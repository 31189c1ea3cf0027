/- Layer 50: the seed's text, walked. -/
import Derived.Deep.RegionHeld3
import Derived.Test.YthfdjfgmgoafnaaDoorSdU
namespace Go.Proofs.YthfdjfgmgoafnaaDoor
open Go.RowKit

theorem lineL_length (l n : List UInt8) : (lineL l n).length = 3 * l.length + n.length + 3 := by
  unfold lineL
  simp [hexB_length]
  omega
def Ty (w : World) (q b off : Nat) (W : World) : Prop := ∃ l, Tx w q b off l W
section
variable {w W W' : World} {q b off : Nat} {l : List UInt8}
theorem Ty.drew (h : Ty w q b off W) : Ty w q b off W.drew := h.elim fun _ k => ⟨_, k.drew⟩
theorem Ty.alloc (h : Ty w q b off W) (o : Obj) : Ty w q b off (W.alloc o) := h.elim fun _ k => ⟨_, k.alloc o⟩
theorem Ty.of (h : Tx w q b off l W) : Ty w q b off W := ⟨_, h⟩
theorem Ty.all {a : Nat} {s : ByteArray} (hs : codeA[a]? = some (.string s)) (h : Ty w q b off W) : W.cell? ⟨w.heap.size, a, none⟩ = some (.string s) ∧ Ty w q b off W :=
  ⟨h.elim fun _ k => (k.c.cell a).trans hs, h⟩
end
theorem line_size {t : ByteArray} {l n : List UInt8} (h : t.data.toList = lineL l n) : t.size = 3 * l.length + n.length + 3 := by
  have e : t.data.toList.length = t.size := rfl
  rw [← e, h, lineL_length]
theorem le1_len (x : UInt32) : (leBytes [x]).length = 4 := by rw [leBytes_length]; rfl
set_option maxRecDepth 100000 in
set_option maxHeartbeats 4000000 in
theorem seed_Text (w : World) (hT : Small w) :
    Calls Tryd.prog 4 #[] w fun e w' => (∃ t, e = .returned (.string t) ∧ Hid (t.data.toList = bodyL 34)) ∧ Below w.heap.size w w' := by
  have K0 := Lib.hid seed_code
  have K1 := Lib.hid seed_words
  have hB := Blk.new w 51 codeA
  have hbel := (Below.refl _ w).alloc (Nat.le_refl _) (.cells codeA 51)
  go_enter Tryd.func4, Tryd.ntmps4
  go_wp2_with fail
  refine (K0.out _).mono ?_
  obtain ⟨W0, hW0⟩ : ∃ W0, w.alloc (.cells codeA 51) = W0 := ⟨_, rfl⟩
  rw [hW0] at hB hbel ⊢
  rintro e w0 ⟨rfl, rfl⟩
  clear hW0
  have hsz := hB.lt
  go_wp2_with fail
  refine (K1.out _).mono ?_
  rintro e w1 ⟨⟨A, c, rfl, hS⟩, hb1⟩
  obtain ⟨b, off, rfl, hbq, hc⟩ := hS.2 (by decide)
  have T0 : Tx w w1.heap.size b off [] (w1.alloc (.cells #[.pointer none, .slice none 0 0] 40)) :=
    ⟨(hB.below hb1 hsz).alloc _, fun i u hu => (((Below.refl _ w1).alloc (Nat.le_refl _) _).cell (p := ⟨b, off + i, none⟩) hbq).trans (hc i u hu), bd_fresh w1, (hbel.trans (hb1.mono hbel.size)).alloc (Nat.le_trans hbel.size hb1.size) _, Nat.lt_of_lt_of_le hsz hb1.size, hbq, by simp⟩
  clear hB hbel hsz hS hb1 hc K0 K1
  go_wp2_with fail
  generalize World.alloc _ _ = V at T0 ⊢
  generalize w1.heap.size = q at T0 ⊢
  clear hbq
  refine (seed_line _ _ V (by decide) (by decide) (hT.below T0.bel hT.1)).mono ?_
  rintro e w2 ⟨⟨t1, rfl, ht1⟩, hb2⟩
  have T2 := T0.below rfl hb2
  have z1 := Lib.hid (line_size ht1.out)
  clear T0 hb2
  go_wp2_with fail
  refine (Builder_WriteString q q _ t1 w2 T2.bd (by rw [z1.out]; decide) (Nat.le_of_lt T2.qw)).mono ?_
  rintro e w3 ⟨rfl, B3, b3, -⟩
  have T3 := Lib.hid (T2.put b3 B3)
  clear T2 B3 b3
  go_wp2_with fail
  have T4 := T3.out.alloc (.cells #[.int .u32 34] 47)
  have S4 : Sl (w3.alloc (.cells #[.int .u32 34] 47)) (w3.alloc (.cells #[.int .u32 34] 47)).heap.size (some ⟨w3.heap.size, 0, none⟩) 1 ([34].map wv) := sl_one w3 47 34
  refine (word_Bytes [34] _ 1 1 _ S4 (by decide)).mono ?_
  rintro e w4 ⟨⟨t2, rfl, ht2⟩, hb4⟩
  have T5 := T4.below rfl hb4
  have z2 := Lib.hid (le1_size ht2.out)
  clear T3 T4 S4 hb4
  go_wp2_with fail
  refine (seed_line t2 _ w4 (by rw [z2.out]; decide) (by decide) (hT.below T5.bel hT.1)).mono ?_
  rintro e w5 ⟨⟨t3, rfl, ht3⟩, hb5⟩
  have T6 := T5.below rfl hb5
  rw [ht2.out] at ht3
  have z3 := Lib.hid (line_size ht3.out)
  clear T5 hb5
  go_wp2_with fail
  refine (Builder_WriteString q q _ t3 w5 T6.bd (by rw [z3.out, ht1.out, le1_len]; decide) (Nat.le_of_lt T6.qw)).mono ?_
  rintro e w6 ⟨rfl, B6, b6, -⟩
  have T7 := Lib.hid (T6.put b6 B6)
  clear T6 B6 b6
  go_wp2_with fail
  have T8 := T7.out.alloc (.cells #[.int .u32 0] 47)
  have S8 : Sl (w6.alloc (.cells #[.int .u32 0] 47)) (w6.alloc (.cells #[.int .u32 0] 47)).heap.size (some ⟨w6.heap.size, 0, none⟩) 1 ([0].map wv) := sl_one w6 47 0
  refine (word_Bytes [0] _ 1 1 _ S8 (by decide)).mono ?_
  rintro e w7 ⟨⟨t4, rfl, ht4⟩, hb7⟩
  have T9 := T8.below rfl hb7
  have z4 := Lib.hid (le1_size ht4.out)
  clear T7 T8 S8 hb7
  go_wp2_with fail
  refine (seed_line t4 _ w7 (by rw [z4.out]; decide) (by decide) (hT.below T9.bel hT.1)).mono ?_
  rintro e w8 ⟨⟨t5, rfl, ht5⟩, hb8⟩
  have Ta := T9.below rfl hb8
  rw [ht4.out] at ht5
  have z5 := Lib.hid (line_size ht5.out)
  clear T9 hb8
  go_wp2_with fail
  refine (Builder_WriteString q q _ t5 w8 Ta.bd (by rw [z5.out, ht1.out, ht3.out, le1_len]; decide) (Nat.le_of_lt Ta.qw)).mono ?_
  rintro e w9 ⟨rfl, B9, b9, -⟩
  have Tb := Ta.put b9 B9
  rw [ht1.out, ht3.out, ht5.out] at Tb
  have Tc : Hid (Tx w q b off (bodyL 0) w9) := Tb
  clear Ta Tb B9 b9 z1 z2 z3 z4 z5 ht1 ht2 ht3 ht4 ht5
  go_wp2_with fail
  go_loopw [23] (fun i wr => ∃ j : Nat, j ≤ 34 ∧ i = .int .i64 j ∧ Tx w q b off (bodyL j) wr) (fun i _ => 34 - (intOf i).toNat)
  case atStart => exact ⟨0, Nat.zero_le _, rfl, Tc.out⟩
  case round =>
    clear Tc
    obtain ⟨j, hj, rfl, h⟩ := hrel
    by_cases hlt : j < 34
    · obtain ⟨_, _, _, _, s, _, _, _, _, _, x4, xn⟩ := code_at j hlt
      have hl : j < seedW.length := by rw [seedW_len]; exact hlt
      have hx0 := h.ws j (wv seedW[j]) (by rw [List.getElem?_map, List.getElem?_eq_getElem hl]; rfl)
      have hnd : noteL.getD j ⟨#[]⟩ = s := by rw [List.getD_eq_getElem?_getD, xn]; rfl
      have hns := note_len j hlt
      rw [hnd] at hns
      have HS : Hid (bodyL (j + 1) = bodyL j ++ lineL (leBytes [seedW[j]]) s.data.toList) := by
        unfold Hid
        rw [show bodyL (j + 1) = bodyL j ++ lineL (leBytes [seedW.getD j 0]) (noteL.getD j ⟨#[]⟩).data.toList from rfl, hnd, List.getD_eq_getElem?_getD, List.getElem?_eq_getElem hl]
        rfl
      obtain ⟨x, hx⟩ : ∃ x, seedW[j] = x := ⟨_, rfl⟩
      rw [hx] at hx0 HS
      unfold wv at hx0
      have HL := Lib.hid (body_len j (by omega))
      have hjI : (j : Int) < 34 := by omega
      have hj0 : (0 : Int) ≤ j := by omega
      have H := Lib.hid h
      have X4 := Lib.hid x4
      have HN := Lib.hid hns
      clear h hx x4 xn hnd hns
      go_wp2_with fail
      go_region_held3 (fun W => W.cell? ⟨w.heap.size, j * 5 + 4, none⟩ = some (.string s) ∧ Ty w q b off W) ((refine Ty.all X4.out ?_; repeat (first | assumption | (exact Ty.of (by assumption)) | (refine Ty.drew ?_) | (refine Ty.alloc ?_ _))))
        ((first
          | (go_at_call 16; (with_reducible refine (word_Bytes [x] (some ⟨wr.heap.size, 0, none⟩) 1 1 _ ?_ ?_).mono ?_); (exact sl_one _ _ _); (decide); rintro e w2 ⟨⟨b1, rfl, hb1⟩, hbe1⟩; have T2 := Tx.below (H.out.alloc (.cells #[.int .u32 x.toNat] 47)).drew rfl hbe1; have z1 := Lib.hid (le1_size hb1.out))
          | (go_at_call 15; (with_reducible refine (seed_line b1 s _ ?_ ?_ ?_).mono ?_); (rw [z1.out]; decide); (have k1 := HN.out; omega); (exact hT.below T2.bel hT.1); rintro e w3 ⟨⟨t1, rfl, ht1⟩, hbe2⟩; have T3 := T2.below rfl hbe2; have z2 := Lib.hid (line_size ht1.out))
          | (go_at_call 14; (with_reducible refine (Builder_WriteString q q _ t1 w3 T3.bd ?_ (Nat.le_of_lt T3.qw)).mono ?_); (have k1 := HL.out; have k2 := HN.out; have k3 := le1_len x; rw [z2.out, hb1.out, k3, show s.data.toList.length = s.size from rfl]; omega); rintro e w4 ⟨rfl, B4, b4, -⟩; have T4 := T3.put b4 B4)))
      rw [ht1.out, hb1.out, ← HS.out] at T4
      clear T2 T3 B4 b4 H
      have H4 := Lib.hid T4
      clear T4
      go_wp2_with fail
      go_roundw
      case rel => exact ⟨j + 1, hlt, by simp, H4.out⟩
      case measure => simp [intOf]; omega
    · obtain rfl : j = 34 := by omega
      have H := Lib.hid h
      clear h
      go_wp2_with fail
      refine (Builder_String q q _ wr H.out.bd (Nat.le_of_lt H.out.qw)).mono ?_
      rintro e w2 ⟨rfl, -, b2, -⟩
      obtain ⟨T, hT2⟩ : ∃ T : ByteArray, (⟨(bodyL 34).toArray⟩ : ByteArray) = T := ⟨_, rfl⟩
      have HTd : Hid (T.data.toList = bodyL 34) := by unfold Hid; rw [← hT2]
      rw [hT2]
      clear hT2
      go_wp2_with fail
      go_returns
      exact ⟨⟨T, rfl, HTd⟩, H.out.bel.trans (b2.mono (Nat.le_of_lt H.out.lt))⟩
end Go.Proofs.YthfdjfgmgoafnaaDoor
