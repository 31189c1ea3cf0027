/- Layer 50: a line of the seed's text, walked: bytes in digits, a blank behind each two, a note. -/
import Derived.Test.YtepgnnlihnajeaaDoorBld
import Derived.Test.YtepgnnlihnajeaaDoorHxA
namespace Go.Proofs.YtepgnnlihnajeaaDoor
open Go.RowKit

def hexB (l : List UInt8) : List UInt8 := l.flatMap fun b => [smallD (b.toNat / 16), smallD (b.toNat % 16), 32]
def lineL (l n : List UInt8) : List UInt8 := hexB l ++ [35, 32] ++ n ++ [10]
theorem hexB_length (l : List UInt8) : (hexB l).length = 3 * l.length := by
  induction l with
  | nil => rfl
  | cons b r ih => unfold hexB at ih ⊢; rw [List.flatMap_cons, List.length_append, ih]; simp; omega
theorem hexB_snoc (l : List UInt8) (k : Nat) (h : k < l.length) : hexB (l.take (k + 1)) = hexB (l.take k) ++ hexT [l[k]] ++ [32] := by
  unfold hexB hexT
  rw [List.take_succ_eq_append_getElem h, List.flatMap_append]
  simp

theorem ba_app (a b : ByteArray) : (a ++ b).data.toList = a.data.toList ++ b.data.toList := by
  rw [ByteArray.data_append, Array.toList_append]
set_option maxHeartbeats 1000000 in
theorem seed_line (s note : ByteArray) (w : World) (hs : s.size ≤ 1000) (hn : note.size ≤ 1000) (hT : Small w) :
    Calls Tryd.prog 12 #[.string s, .string note] w fun e w' => (∃ t, e = .returned (.string t) ∧ Hid (t.data.toList = lineL s.data.toList note.data.toList)) ∧ Below w.heap.size w w' := by
  have hlen : s.data.toList.length = s.size := rfl
  have h0 := bd_fresh w
  have hb0 := (Below.refl _ w).alloc (Nat.le_refl _) (.cells #[.pointer none, .slice none 0 0] 33)
  have H0 := Lib.hid h0
  clear h0
  go_enter Tryd.func12, Tryd.ntmps12
  go_wp2_with fail
  go_loopw [9] (fun i wr => ∃ k : Nat, k ≤ s.size ∧ i = .int .i64 k ∧ Bd w.heap.size w.heap.size (hexB (s.data.toList.take k)) wr ∧ Below w.heap.size w wr) (fun i _ => s.size - (intOf i).toNat)
  case atStart => exact ⟨0, Nat.zero_le _, rfl, H0.out, hb0⟩
  case round =>
    clear H0 hb0
    obtain ⟨k, hk, rfl, hB, hb⟩ := hrel
    have hsz := hb.size
    have HB := Lib.hid hB
    have HBw := Lib.hid hb
    have hT1 := hT.below hb hT.1
    clear hB hb
    by_cases hlt : k < s.size
    · have hkI : (k : Int) < s.size := by omega
      have hk0 : (0 : Int) ≤ k := by omega
      have hkl : (k : Int) + 1 ≤ s.size := by omega
      obtain ⟨x, hx⟩ : ∃ x, s.extract k (k + 1) = x := ⟨_, rfl⟩
      have hx1 : x.data.toList = [s.data.toList[k]'hlt] := by
        rw [← hx, Lib.extract_data, show k + 1 - k = 1 by omega, List.drop_eq_getElem_cons (show k < s.data.toList.length from hlt)]
        rfl
      have hxz : x.size = 1 := congrArg List.length hx1
      have HS := Lib.hid (hexB_snoc s.data.toList k hlt)
      rw [← hx1] at HS
      have HX := Lib.hid hxz
      clear hx1 hxz
      go_wp2_with fail
      refine (hex_Text x wr (by rw [HX.out]; omega) hT1).mono ?_
      rintro e w1 ⟨⟨t, rfl, ht⟩, hb1⟩
      have htz : t.size = 2 := by
        have e2 : t.data.toList.length = t.size := rfl
        have e3 : x.data.toList.length = x.size := rfl
        rw [ht.out, hexT_length, e3, HX.out] at e2
        omega
      have HTZ := Lib.hid htz
      have hlen1 := hexB_length (s.data.toList.take k)
      rw [List.length_take, hlen] at hlen1
      have B1 := bd_below HB.out rfl hb1
      have b1 := HBw.out.trans (hb1.mono hsz)
      have H1 := Lib.hid hlen1
      clear htz hlen1 hb1
      go_wp2_with fail
      refine (Builder_WriteString _ _ _ t w1 B1 (by rw [HTZ.out, H1.out]; omega) b1.size).mono ?_
      rintro e w2 ⟨rfl, B2, b2, -⟩
      go_wp2_with fail
      refine (Builder_WriteString _ _ _ ⟨#[32]⟩ w2 B2 (by rw [List.length_append, show t.data.toList.length = t.size from rfl, HTZ.out, H1.out, show (⟨#[32]⟩ : ByteArray).size = 1 from rfl]; omega) (Nat.le_trans b1.size b2.size)).mono ?_
      rintro e w3 ⟨rfl, B3, b3, -⟩
      have b4 := Lib.hid ((b1.trans b2).trans b3)
      rw [ht.out] at B3
      have B4 : Hid (Bd w.heap.size w.heap.size (hexB (s.data.toList.take (k + 1))) w3) := by unfold Hid; rw [HS.out]; exact B3
      clear B1 B2 B3 b1 b2 b3 hT1
      go_wp2_with fail
      go_roundw
      case rel => exact ⟨k + 1, hlt, by simp, B4.out, b4.out⟩
      case measure => simp [intOf]; omega
    · obtain rfl : k = s.size := by omega
      have hl1 := hexB_length s.data.toList
      rw [hlen] at hl1
      have HL := Lib.hid hl1
      rw [List.take_of_length_le (by rw [hlen]; exact Nat.le_refl _)] at HB
      obtain ⟨h, hh⟩ : ∃ h, hexB s.data.toList = h := ⟨_, rfl⟩
      rw [hh] at HB HL
      obtain ⟨T, hT⟩ : ∃ T : ByteArray, (⟨h.toArray⟩ : ByteArray) = T := ⟨_, rfl⟩
      have hTz : T.size = 3 * s.size := by rw [← hT, ← HL.out]; rfl
      have HTd : Hid (T.data.toList = h) := by unfold Hid; rw [← hT]
      have q1 : ¬ 9223372036854775807 < T.size + (⟨#[35, 32]⟩ : ByteArray).size := by rw [hTz]; show ¬ 9223372036854775807 < 3 * s.size + 2; omega
      have z1 : (T ++ (⟨#[35, 32]⟩ : ByteArray)).size = 3 * s.size + 2 := by rw [ByteArray.size_append, hTz]; rfl
      have q2 : ¬ 9223372036854775807 < (T ++ (⟨#[35, 32]⟩ : ByteArray)).size + note.size := by rw [z1]; omega
      have z2 : (T ++ (⟨#[35, 32]⟩ : ByteArray) ++ note).size = 3 * s.size + 2 + note.size := by rw [ByteArray.size_append, z1]
      have q3 : ¬ 9223372036854775807 < (T ++ (⟨#[35, 32]⟩ : ByteArray) ++ note).size + (⟨#[10]⟩ : ByteArray).size := by rw [z2]; show ¬ 9223372036854775807 < 3 * s.size + 2 + note.size + 1; omega
      clear z1 z2 hTz hl1
      go_wp2_with fail
      refine (Builder_String _ _ _ wr HB.out hsz).mono ?_
      rintro e w1 ⟨rfl, -, b1, -⟩
      rw [hT]
      go_wp2_with fail
      go_returns
      refine ⟨⟨_, rfl, ?_⟩, HBw.out.trans b1⟩
      unfold Hid
      rw [ba_app, ba_app, ba_app, HTd.out, ← hh]
      rfl
end Go.Proofs.YtepgnnlihnajeaaDoor
