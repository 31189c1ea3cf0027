/- Layer 11: a text's lines, walked: the document's. -/
import Derived.Test.YtneebohaanjejaaDoorLs
import Derived.Lib.Strings
namespace Go.Proofs.YtneebohaanjejaaDoor
open Go.RowKit

def sv (l : List UInt8) : Value := .string ⟨l.toArray⟩
theorem linesA_nil (acc : List UInt8) : linesA acc [] = [] := rfl
theorem linesA_lf {acc r : List UInt8} {c : UInt8} (h : c.toNat = 10) : linesA acc (c :: r) = acc :: linesA [] r := by rw [linesA, if_pos h]
theorem linesA_no {acc r : List UInt8} {c : UInt8} (h : c.toNat ≠ 10) : linesA acc (c :: r) = linesA (acc ++ [c]) r := by rw [linesA, if_neg h]
theorem part_snoc (l : List UInt8) {f i : Nat} (hf : f ≤ i) (hi : i < l.length) : (l.drop f).take (i - f) ++ [l[i]] = (l.drop f).take (i + 1 - f) := by
  rw [show i + 1 - f = (i - f) + 1 by omega, List.take_succ_eq_append_getElem (by rw [List.length_drop]; omega), List.getElem_drop]
  congr 2
  congr 1
  omega
theorem ext_sv (t : ByteArray) (f i : Nat) : Value.string (t.extract f i) = sv ((t.data.toList.drop f).take (i - f)) := by
  unfold sv
  rw [← ba_eq (Lib.extract_data t f i)]

set_option maxHeartbeats 1000000 in
theorem ref11_Lines (t : ByteArray) (w : World) (hs : t.size ≤ 1000000) :
    Calls Tryd.prog 25 #[.string t] w fun e w' => (∃ L c, e = .returned (.slice L (linesA [] t.data.toList).length c) ∧ Sl w' w'.heap.size L (linesA [] t.data.toList).length ((linesA [] t.data.toList).map sv) ∧ (linesA [] t.data.toList).length ≤ c) ∧ Below w.heap.size w w' := by
  obtain ⟨M, hM⟩ : ∃ M, linesA [] t.data.toList = M := ⟨_, rfl⟩
  rw [hM]
  have HM := Lib.hid hM
  clear hM
  go_enter Tryd.func25, Tryd.ntmps25
  go_wp2_with fail
  go_loopw [5, 4, 3] (fun iv fv v wr => ∃ (i f : Nat) (ls : List (List UInt8)), i ≤ t.size ∧ f ≤ i ∧ iv = .int .i64 i ∧ fv = .int .i64 f ∧ wr.ownsRow w.heap.size 9 1 v ls.length (ls.map sv) ∧ ls.length ≤ i ∧ Hid (M = ls ++ linesA ((t.data.toList.drop f).take (i - f)) (t.data.toList.drop i)) ∧ Below w.heap.size w wr) (fun iv _ _ _ => t.size - (intOf iv).toNat)
  case atStart => exact ⟨0, 0, [], Nat.zero_le _, Nat.le_refl _, rfl, rfl, World.ownsRow_nil _ _ _ _, Nat.le_refl _, HM.out.symm, Below.refl _ _⟩
  case round =>
    obtain ⟨i, f, ls, hi, hf, rfl, rfl, hown, hll, HL, hb⟩ := hrel
    have hsz := hb.size
    by_cases hlt : i < t.size
    · have hiI : (i : Int) < t.size := by omega
      have hi0 : (0 : Int) ≤ i := by omega
      have hf0 : (0 : Int) ≤ f := by omega
      have hfI : (f : Int) ≤ i := by omega
      have hsI : (t.size : Int) ≤ 1000000 := by omega
      have hdrop : t.data.toList.drop i = t[i]'hlt :: t.data.toList.drop (i + 1) := List.drop_eq_getElem_cons (show i < t.data.toList.length from hlt)
      by_cases h10 : (t[i]'hlt).toNat = 10
      · have q1 : (((t[i]'hlt).toNat : Int) == 10) = true := by rw [h10]; rfl
        have HN : Hid (M = (ls ++ [(t.data.toList.drop f).take (i - f)]) ++ linesA ((t.data.toList.drop (i + 1)).take (i + 1 - (i + 1))) (t.data.toList.drop (i + 1))) := Lib.hid (by
          rw [HL.out, hdrop, linesA_lf h10, Nat.sub_self, List.take_zero, List.append_assoc]
          rfl)
        have HE := Lib.hid (ext_sv t f i)
        have HB := Lib.hid hb
        clear hdrop HL hb h10
        go_wp2_with (at_builtin; refine wpList_append_new rfl _ _ 37 rfl w.heap.size (.string ⟨#[]⟩) 1 16 Tryd.underlying37 (by kernel_rfl) rfl (by decide) _ ls.length _ rfl hown 1 rfl rfl (by simp [Value.oneCell']) (by omega) (by omega) hsz ?_; intro v1 w3 hown1 hb3 hk)
        have HO : Hid (w3.ownsRow w.heap.size 9 1 v1 (ls ++ [(t.data.toList.drop f).take (i - f)]).length ((ls ++ [(t.data.toList.drop f).take (i - f)]).map sv)) := Lib.hid (by
          rw [List.length_append, List.map_append]
          have k := hown1
          simp only [HE.out] at k
          exact k)
        have HB3 := Lib.hid (HB.out.trans hb3)
        clear hown hown1 hb3 hk q1
        go_wp2_with fail
        go_roundw
        case rel => exact ⟨i + 1, i + 1, _, hlt, Nat.le_refl _, by simp, by simp, HO.out, by rw [List.length_append]; simp; omega, HN, HB3.out⟩
        case measure => simp [intOf]; omega
      · have q1 : (((t[i]'hlt).toNat : Int) == 10) = false := by rw [beq_eq_false_iff_ne]; omega
        have HN : Hid (M = ls ++ linesA ((t.data.toList.drop f).take (i + 1 - f)) (t.data.toList.drop (i + 1))) := Lib.hid (by
          rw [HL.out, hdrop, linesA_no h10, ← part_snoc t.data.toList hf hlt]
          rfl)
        have HB := Lib.hid hb
        have HO := Lib.hid hown
        clear hdrop HL hb h10 hown
        go_wp2_with fail
        go_roundw
        case rel => exact ⟨i + 1, f, ls, hlt, by omega, by simp, rfl, HO.out, by omega, HN, HB.out⟩
        case measure => simp [intOf]; omega
    · obtain rfl : i = t.size := by omega
      have he : M = ls := by
        have h := HL.out
        rw [List.drop_eq_nil_of_le (show t.data.toList.length ≤ t.size from Nat.le_refl _), linesA_nil, List.append_nil] at h
        exact h
      subst he
      obtain ⟨L, c, rfl, hc, -, hS⟩ := Sl.of_own hown
      have HS := Lib.hid hS
      clear HL hown hS
      go_wp2_with fail
      go_returns
      exact ⟨⟨L, c, rfl, HS.out, hc⟩, hb⟩
end Go.Proofs.YtneebohaanjejaaDoor
