/- Layer 7: the closure that lays a part of a text, walked. -/
import Derived.Lib.ItoaLen
import Derived.Lib.AppendIntMem
import Derived.Lib.LaidTab
import Derived.WalkSmall
import Derived.Test.YtknonabeagbjeaaGreatDoorInC
import Derived.Test.YtknonabeagbjeaaGreatDoorInI
namespace Go.Proofs.YtknonabeagbjeaaGreatDoor
open Go.RowKit

def Pow10 (w : World) : Prop := 3 < w.heap.size ∧ Lib.TabIs Tryz.prog w "internal/strconv.uint64pow10" .u64 Lib.pow10Tab
theorem pow10_named : Tryz.prog.globalNamed "internal/strconv.uint64pow10" = some 3 := by kernel_rfl
theorem Pow10.below {w w' : World} (h : Pow10 w) (hb : Below w.heap.size w w') : Pow10 w' :=
  ⟨by have := hb.size; have := h.1; omega, var?_below hb pow10_named h.1 h.2⟩

def commaS : ByteArray := ⟨#[44, 32]⟩
def partS (t s pre : ByteArray) (n : Nat) : ByteArray := t ++ (s ++ pre ++ ⟨(Lib.itoa (n : Int)).toArray⟩)
theorem itoa_size (n : Nat) (hn : n ≤ 65535) : (⟨(Lib.itoa (n : Int)).toArray⟩ : ByteArray).size ≤ 21 :=
  Lib.itoa_length_le (n : Int) (by omega) (by omega)
theorem ba_append_size (a b : ByteArray) : (a ++ b).size = a.size + b.size := ByteArray.size_append
theorem Itoa_any (n : Nat) (hn : n ≤ 65535) (w : World) (hp : Pow10 w) :
    Calls Tryz.prog 48 #[.int .i64 (n : Int)] w fun e w' => e = .returned (.string ⟨(Lib.itoa (n : Int)).toArray⟩) ∧ Below w.heap.size w w' :=
  (strconv_Itoa (n : Int) (by omega) (by omega) w hp.2).mono fun e w' h => ⟨h.1, by obtain ⟨_, k, os, rfl⟩ := h; exact Lib.below_grow _ _ (Nat.le_refl _) _ _⟩

set_option maxHeartbeats 2000000 in
theorem inst_part (T G : Nat) (t s pre : ByteArray) (n : Nat) (w : World) (hlt : T < G) (hT : Blk w T 9 #[.string t]) (hG : Blk w G 9 #[.string s]) (hp : Pow10 w)
    (ht : t.size ≤ 100) (hs : s.size ≤ 2) (hpre : pre.size ≤ 1) (hn : n ≤ 65535) :
    Calls Tryz.prog 47 #[.string pre, .int .i64 (n : Int), .pointer (some ⟨T, 0, none⟩), .pointer (some ⟨G, 0, none⟩)] w fun e w' => e = .returned (.tuple #[]) ∧ Blk w' T 9 #[.string (partS t s pre n)] ∧ Blk w' G 9 #[.string commaS] ∧ Below T w w' := by
  obtain ⟨I, hI⟩ : ∃ I : ByteArray, (⟨(Lib.itoa (n : Int)).toArray⟩ : ByteArray) = I := ⟨_, rfl⟩
  have hIs := itoa_size n hn
  have K := Itoa_any n hn
  unfold partS
  rw [hI] at hIs K ⊢
  have KH := Lib.hid K
  have a1 : ¬ 9223372036854775807 < s.size + pre.size := by omega
  have a2 : ¬ 9223372036854775807 < (s ++ pre).size + I.size := by rw [ba_append_size]; omega
  have a3 : ¬ 9223372036854775807 < t.size + (s ++ pre ++ I).size := by rw [ba_append_size, ba_append_size]; omega
  have hTs := hT.lt
  have cT := hT.drew.cell 0
  have cG := hG.drew.cell 0
  have fT := hT.drew.frozen 0
  have fG := hG.drew.frozen 0
  clear K hI
  go_enter Tryz.func47, Tryz.ntmps47
  go_wp2_with fail
  go_region_with (go_at_call 48; refine (KH.out _ (hp.below (Below.refl _ w).drew)).mono ?_; rintro e w1 ⟨rfl, hb1⟩; have hT1 := hT.drew.below hb1 hT.lt; have hG1 := hG.drew.below hb1 hG.lt; have dT := hT1.cell 0; have dG := hG1.cell 0; have eT := hT1.frozen 0; have eG := hG1.frozen 0)
  all_goals
    have hT2 := hT1.set 0 (.string (t ++ (s ++ pre ++ I)))
    have hG2 := hG1.far (p := ⟨T, 0, none⟩) (by simp; omega) (.string (t ++ (s ++ pre ++ I)))
    have kG := hG2.cell 0
    have lG := hG2.frozen 0
    have bel := (((Below.refl _ w).drew).trans (hb1.mono (by simp))).mono (Nat.le_of_lt hTs)
    go_wp2_with fail
    go_returns
    have hG3 := hG2.set 0 (.string commaS)
    have hT3 := hT2.far (p := ⟨G, 0, none⟩) (by simp; omega) (.string commaS)
    exact ⟨rfl, hT3, hG3, (bel.setCell (p := ⟨T, 0, none⟩) (Nat.le_refl _) _).setCell (p := ⟨G, 0, none⟩) (Nat.le_of_lt hlt) _⟩
end Go.Proofs.YtknonabeagbjeaaGreatDoor
