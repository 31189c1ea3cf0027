/- Layer 1: a word's decimal text, walked, with strconv.FormatUint: beside chapter 7's texts. -/
import Derived.Test.YtneebohaanjejaaDoorInJ
import Derived.Lib.ItoaMem
import Derived.Lib.AppendIntMem
import Derived.Lib.LaidTab
import Derived.WalkSmall
namespace Go.Proofs.YtneebohaanjejaaDoor
open Go.RowKit

theorem plain_add (b o i : Nat) : (⟨b, o, none⟩ : Addr).add i = ⟨b, o + i, none⟩ := by unfold Addr.add; split <;> simp_all
set_option maxRecDepth 100000 in
set_option maxHeartbeats 1000000 in
theorem FormatUint10 (u : Nat) (hu : u < 4294967296) (w : World) (hp : Pow10 w) :
    Calls Tryd.prog 83 #[.int .u64 (u : Int), .int .i64 10] w fun e w' => e = .returned (.string ⟨(Lib.decDigits u).toArray⟩) ∧ Below w.heap.size w w' := by
  by_cases hs : u < 100
  · have hsI : (u : Int) < 100 := by omega
    have K := internal_strconv_small u hs
    have KH := Lib.hid K
    clear K hs
    go_enter Tryd.func83, Tryd.ntmps83
    go_wp2_with fail
    refine (KH.out _).mono ?_
    rintro e w1 ⟨rfl, rfl⟩
    go_wp2_with fail
    go_returns
    exact ⟨rfl, Below.refl _ _⟩
  · have hsI : ¬ (u : Int) < 100 := by omega
    have hu1 : 1 ≤ u := by omega
    have hu64 : u < 18446744073709551616 := by omega
    have hnd20 : Lib.nDigits u ≤ 20 := by have := Lib.numDigits_eq u hu1 hu64; split at this <;> omega
    have hal : Tryd.prog.arrayLen 127 = 24 := by kernel_rfl
    have hsl1 : ∀ W, (Instr.sliceAt 127 (.pointer (some ⟨w.heap.size, 0, none⟩)) none (some (.int .i64 (Lib.nDigits u : Int))) none).run Tryd.prog W = .ok (.slice (some ⟨w.heap.size, 0, none⟩) (Lib.nDigits u) 24) W := fun W => by
      rw [run_sliceAt_array_h W 127 ⟨w.heap.size, 0, none⟩ Tryd.underlying127 .i64 (Lib.nDigits u : Int) (by omega) (by rw [hal]; omega)]
      go_simp
    have hH0 := Lib.holds_zero0 w 127 (Lib.nDigits u) (by omega)
    have hfmt := internal_strconv_formatBase10 w.heap.size 0 24 u (Array.replicate (Lib.nDigits u) 0) (w.alloc (.cells Lib.zeros24 127)) hH0 (by rw [Array.size_replicate]; exact Lib.lt_pow_nDigits u) hu64 (by rw [Array.size_replicate]; omega)
    rw [Array.size_replicate] at hfmt
    have HH0 := Lib.hid hH0
    have hnum := Lib.hid (fun W h => internal_strconv_numDigits u hu1 hu64 W h)
    have hfm := Lib.hid hfmt
    clear hH0 hal hs hfmt
    go_enter Tryd.func83, Tryd.ntmps83
    go_wp2_with fail
    refine (hnum.out _ (Lib.tabIs_alloc hp.2 _)).mono ?_
    rintro e w1 ⟨rfl, rfl⟩
    go_wp2_with fail
    refine hfm.out.mono ?_
    rintro e w2 ⟨rfl, k, v', dk, rfl, hF⟩
    have hcv : (convert 54 9 (.slice (some ⟨w.heap.size, 0, none⟩) (Lib.nDigits u) 24)).run Tryd.prog ((Go.Sort.putRow (fun (b : UInt8) => Value.int .u8 (b.toNat : Int)) (w.alloc (.cells Lib.zeros24 127)) w.heap.size 0 dk).drewN k) = .ok (.string ⟨(Lib.decDigits u).toArray⟩) ((Go.Sort.putRow (fun (b : UInt8) => Value.int .u8 (b.toNat : Int)) (w.alloc (.cells Lib.zeros24 127)) w.heap.size 0 dk).drewN k) := by
      have h := run_convert_bytes_back (P := Tryd.prog) ((Go.Sort.putRow (fun (b : UInt8) => Value.int .u8 (b.toNat : Int)) (w.alloc (.cells Lib.zeros24 127)) w.heap.size 0 dk).drewN k) 54 9 5 ⟨w.heap.size, 0, none⟩ 24 (Lib.decDigits u) Tryd.underlying54 Tryd.underlying5 Tryd.underlying9 (fun j hj => by
        rw [Lib.row_is_numeral hF j hj, plain_add, World.cell?_drewN]
        exact Go.Sort.cell?_putRow (fun (b : UInt8) => Value.int .u8 (b.toNat : Int)) _ w.heap.size 0 _ dk HH0.out (by rw [hF.size, Array.size_replicate]) j (by rw [hF.size]; rw [Lib.decDigits_length] at hj; exact hj))
      rw [Lib.decDigits_length] at h
      exact h
    have hbel : Below w.heap.size w ((Go.Sort.putRow (fun (b : UInt8) => Value.int .u8 (b.toNat : Int)) (w.alloc (.cells Lib.zeros24 127)) w.heap.size 0 dk).drewN k) := by
      obtain ⟨os, e⟩ := Lib.fin_at w (.cells Lib.zeros24 127) dk k 0
      rw [e]
      exact Lib.below_grow _ w (Nat.le_refl _) k os
    clear hnum hfm HH0 hF
    go_wp2_with fail
    go_returns
    exact ⟨rfl, hbel⟩

theorem sc_FormatUint10 (u : Nat) (hu : u < 4294967296) (w : World) (hp : Pow10 w) :
    Calls Tryd.prog 56 #[.int .u64 (u : Int), .int .i64 10] w fun e w' => e = .returned (.string ⟨(Lib.decDigits u).toArray⟩) ∧ Below w.heap.size w w' := by
  have K := FormatUint10 u hu w hp
  obtain ⟨T, hT⟩ : ∃ T : ByteArray, (⟨(Lib.decDigits u).toArray⟩ : ByteArray) = T := ⟨_, rfl⟩
  rw [hT] at K ⊢
  have KH := Lib.hid K
  clear K hp hT
  go_enter Tryd.func56, Tryd.ntmps56
  go_wp2_with fail
  refine KH.out.mono ?_
  rintro e w1 ⟨rfl, hb⟩
  go_wp2_with fail
  go_returns
  exact ⟨rfl, hb⟩
theorem word_Text (n : UInt32) (w : World) (hp : Pow10 w) :
    Calls Tryd.prog 26 #[.int .u32 n.toNat] w fun e w' => e = .returned (.string ⟨(Lib.decDigits n.toNat).toArray⟩) ∧ Below w.heap.size w w' := by
  have hn := n.toNat_lt
  have K := sc_FormatUint10 n.toNat (by omega) w hp
  obtain ⟨T, hT⟩ : ∃ T : ByteArray, (⟨(Lib.decDigits n.toNat).toArray⟩ : ByteArray) = T := ⟨_, rfl⟩
  rw [hT] at K ⊢
  have KH := Lib.hid K
  clear K hp hT
  go_enter Tryd.func26, Tryd.ntmps26
  go_wp2_with fail
  refine KH.out.mono ?_
  rintro e w1 ⟨rfl, hb⟩
  go_wp2_with fail
  go_returns
  exact ⟨rfl, hb⟩
end Go.Proofs.YtneebohaanjejaaDoor
