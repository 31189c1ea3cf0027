/- Layer 11: the closure that writes a line of the text, walked. -/
import Derived.Test.YtneebohaanjejaaDoorBld
import Derived.Test.YtneebohaanjejaaDoorLib
namespace Go.Proofs.YtneebohaanjejaaDoor
open Go.RowKit

theorem blk_others {w w' : World} {a q : Nat} {t : TypeId} {cs : Array Value} (h : Blk w a t cs) (ha : a ≠ q) (ht : t ≠ 5) (hk : Lib.OthersKept 5 (some q) w w') : Blk w' a t cs :=
  hk a _ h (fun e => ha (by injection e)) (fun c fz e => ht (by injection e))
def joinB (ps : List ByteArray) : List UInt8 := ps.flatMap fun s => s.data.toList
theorem joinB_snoc (ps : List ByteArray) (k : Nat) (h : k < ps.length) : joinB (ps.take (k + 1)) = joinB (ps.take k) ++ ps[k].data.toList := by
  unfold joinB
  rw [List.take_succ_eq_append_getElem h, List.flatMap_append]
  simp
theorem joinB_take (ps : List ByteArray) (k : Nat) (h : k < ps.length) : (joinB (ps.take k)).length + ps[k].size ≤ (joinB ps).length := by
  have e : joinB ps = joinB (ps.take (k + 1)) ++ joinB (ps.drop (k + 1)) := by
    unfold joinB
    rw [← List.flatMap_append, List.take_append_drop]
  rw [e, joinB_snoc ps k h, List.length_append, List.length_append]
  have e2 : ps[k].data.toList.length = ps[k].size := rfl
  omega

set_option maxHeartbeats 1000000 in
theorem text_line (ps : List ByteArray) (q a c : Nat) (l : List UInt8) (w : World) (hB : Bd q q l w) (hP : Blk w a 9 (ps.map Value.string).toArray) (ha : a ≠ q) (hm : ps.length ≤ 1000) (hl : l.length + (joinB ps).length + 1 ≤ 140737488355328) (hq : q ≤ w.heap.size) :
    Calls Tryd.prog 50 #[.slice (some ⟨a, 0, none⟩) ps.length c, .pointer (some ⟨q, 0, none⟩)] w fun e w' => e = .returned (.tuple #[]) ∧ Bd q q (l ++ joinB ps ++ [10]) w' ∧ Below q w w' ∧ Lib.OthersKept 5 (some q) w w' := by
  have HB := Lib.hid hB
  clear hB
  go_enter Tryd.func50, Tryd.ntmps50
  go_wp2_with fail
  go_loopw [7] (fun i wr => ∃ k : Nat, k ≤ ps.length ∧ i = .int .i64 k ∧ Bd q q (l ++ joinB (ps.take k)) wr ∧ Below q w wr ∧ Lib.OthersKept 5 (some q) w wr) (fun i _ => ps.length - (intOf i).toNat)
  case atStart => exact ⟨0, Nat.zero_le _, rfl, by rw [List.take_zero]; unfold joinB; rw [List.flatMap_nil, List.append_nil]; exact HB.out, Below.refl _ _, Lib.OthersKept.refl _ _ _⟩
  case round =>
    clear HB
    obtain ⟨k, hk, rfl, hB, hb, hO⟩ := hrel
    have hsz := hb.size
    have HB := Lib.hid hB
    have HO := Lib.hid hO
    have HBe := Lib.hid hb
    clear hB hO hb
    by_cases hlt : k < ps.length
    · have hkI : (k : Int) < ps.length := by omega
      have hmI : (ps.length : Int) ≤ 1000 := by omega
      have hk0 : (0 : Int) ≤ k := by omega
      have hP2 := blk_others hP ha (by decide) HO.out
      have hc := (hP2.cell k).trans (show (ps.map Value.string).toArray[k]? = some (.string ps[k]) by simp [List.getElem?_eq_getElem hlt])
      have HS := Lib.hid (joinB_snoc ps k hlt)
      have HT := Lib.hid (joinB_take ps k hlt)
      obtain ⟨x, hx⟩ : ∃ x, ps[k] = x := ⟨_, rfl⟩
      rw [hx] at hc HS HT
      clear hx hP2
      go_wp2_with fail
      refine (Builder_WriteString q q _ x wr HB.out (by have h := HT.out; rw [List.length_append]; omega) (Nat.le_trans hq hsz)).mono ?_
      rintro e w2 ⟨rfl, B2, b2, o2⟩
      rw [List.append_assoc, ← HS.out] at B2
      have HB2 := Lib.hid B2
      have Hb2 := Lib.hid (HBe.out.trans b2)
      have HO2 := Lib.hid (HO.out.trans o2)
      clear B2 b2 o2 hc
      go_wp2_with fail
      go_roundw
      case rel => exact ⟨k + 1, hlt, by simp, HB2.out, Hb2.out, HO2.out⟩
      case measure => simp [intOf]; omega
    · obtain rfl : k = ps.length := by omega
      rw [List.take_of_length_le (Nat.le_refl _)] at HB
      go_wp2_with fail
      refine (Builder_WriteByte q q _ 10 wr HB.out (by rw [List.length_append]; omega) (Nat.le_trans hq hsz)).mono ?_
      rintro e w2 ⟨rfl, B2, b2, o2⟩
      have HB2 := Lib.hid B2
      have Hb2 := Lib.hid (HBe.out.trans b2)
      have HO2 := Lib.hid (HO.out.trans o2)
      clear B2 b2 o2
      go_wp2_with fail
      go_returns
      exact ⟨rfl, HB2.out, Hb2.out, HO2.out⟩
end Go.Proofs.YtneebohaanjejaaDoor
