/- Layer 1: a word's text, walked: the program's, with strconv.FormatUint, and the document's. -/
import Derived.Test.YtekpfpikbgiblaaDoorApp
import Derived.Test.YtekpfpikbgiblaaDoorSh01
import Derived.Lib.ItoaMem
import Derived.Lib.AppendIntMem
import Derived.Lib.LaidTab
import Derived.WalkSmall
namespace Go.Proofs.YtekpfpikbgiblaaDoor
open Go.RowKit

def Pow10 (w : World) : Prop := 2 < w.heap.size ∧ Lib.TabIs Tryd.prog w "internal/strconv.uint64pow10" .u64 Lib.pow10Tab
theorem pow10_named : Tryd.prog.globalNamed "internal/strconv.uint64pow10" = some 2 := by kernel_rfl
theorem Pow10.below {w w' : World} (h : Pow10 w) (hb : Below w.heap.size w w') : Pow10 w' :=
  ⟨by have := hb.size; have := h.1; omega, var?_below hb pow10_named h.1 h.2⟩

theorem cv1 (x : Int) (y : UInt8) (hy : x = (y.toNat : Int)) (W : World) : (convert 28 9 (.slice (some ⟨W.heap.size, 0, none⟩) 1 1)).run Tryd.prog (W.alloc (.cells #[.int .u8 x] 5)) = .ok (.string ⟨#[y]⟩) (W.alloc (.cells #[.int .u8 x] 5)) := by
  subst hy
  exact run_string_row [y] 28 9 Tryd.underlying28 Tryd.underlying5 Tryd.underlying9 (own_lit1 W _ W.heap.size (Nat.le_refl _) _)
theorem dec_rec' {n : Nat} (h : 10 ≤ n) : Lib.decDigits n = Lib.decDigits (n / 10) ++ [UInt8.ofNat (48 + n % 10)] := by
  conv => lhs; rw [Lib.decDigits]
  rw [dif_neg (by omega)]
theorem dec_length32 (n : Nat) (h : n < 4294967296) : (Lib.decDigits n).length ≤ 10 := by
  have key : ∀ k n, n < 10 ^ (k + 1) → (Lib.decDigits n).length ≤ k + 1 := by
    intro k
    induction k with
    | zero => intro n hn; rw [Lib.decDigits_one (by omega)]; simp
    | succ k ih =>
      intro n hn
      by_cases h10 : n < 10
      · rw [Lib.decDigits_one h10]; simp
      · rw [dec_rec' (by omega), List.length_append]
        have h2 := ih (n / 10) (by rw [Nat.pow_succ] at hn; omega)
        simp only [List.length_singleton]
        omega
  exact key 9 n (by omega)
theorem ba_size (t : ByteArray) : t.size = t.data.toList.length := rfl
theorem ba_app (a b : ByteArray) : (a ++ b).data.toList = a.data.toList ++ b.data.toList := by
  rw [ByteArray.data_append, Array.toList_append]
theorem one_list (x : UInt8) : (⟨#[x]⟩ : ByteArray).data.toList = [x] := rfl

set_option maxHeartbeats 1000000 in
theorem ref01_Text (n : Nat) (hn : n < 4294967296) (w : World) :
    Calls Tryd.prog 14 #[.int .u32 (n : Int)] w fun e w' => e = .returned (.string ⟨(Lib.decDigits n).toArray⟩) ∧ Below w.heap.size w w' := by
  have hdl := dec_length32 n hn
  go_enter Tryd.func14, Tryd.ntmps14
  go_wp2_with fail
  go_loopw [0, 3] (fun nv v wr => ∃ (m : Nat) (t : ByteArray), m ≤ n ∧ nv = .int .u32 m ∧ v = .string t ∧ t.size ≤ 10 ∧ Hid (Lib.decDigits m ++ t.data.toList = Lib.decDigits n) ∧ Below w.heap.size w wr) (fun nv _ _ => (intOf nv).toNat)
  case atStart => exact ⟨n, ⟨#[]⟩, Nat.le_refl _, rfl, rfl, by decide, List.append_nil _, Below.refl _ _⟩
  case round =>
    obtain ⟨m, t, hm, rfl, rfl, ht, H, hbel⟩ := hrel
    have hsz := hbel.size
    by_cases h9 : 9 < m
    · have hcv := cv1 (48 + (m : Int) % 10) (UInt8.ofNat (48 + m % 10)) (by rw [UInt8.toNat_ofNat']; omega)
      obtain ⟨D, hD⟩ : ∃ D : ByteArray, (⟨#[UInt8.ofNat (48 + m % 10)]⟩ : ByteArray) = D := ⟨_, rfl⟩
      have hds : D.size = 1 := by rw [← hD]; rfl
      have HN : Hid (Lib.decDigits (m / 10) ++ (D ++ t).data.toList = Lib.decDigits n) := by
        unfold Hid
        rw [ba_app, ← hD, one_list, ← H.out, dec_rec' (show 10 ≤ m by omega), List.append_assoc]
      have hts : (D ++ t).size ≤ 10 := by
        have h2 := congrArg List.length HN.out
        have h3 := Lib.decDigits_length (m / 10)
        have h4 : (D ++ t).size = (D ++ t).data.toList.length := rfl
        rw [List.length_append] at h2
        omega
      rw [hD] at hcv
      clear H hD
      go_wp2_with fail
      go_roundw
      case rel => exact ⟨m / 10, D ++ t, by omega, by go_num, rfl, hts, HN, hbel.alloc hsz _⟩
      case measure => simp [intOf]; omega
    · have hcv := cv1 (48 + (m : Int)) (UInt8.ofNat (48 + m)) (by rw [UInt8.toNat_ofNat']; omega)
      obtain ⟨D, hD⟩ : ∃ D : ByteArray, (⟨#[UInt8.ofNat (48 + m)]⟩ : ByteArray) = D := ⟨_, rfl⟩
      have hds : D.size = 1 := by rw [← hD]; rfl
      have HN : Hid ((⟨(Lib.decDigits n).toArray⟩ : ByteArray) = D ++ t) := by
        apply ba_inj
        rw [ba_app, ← hD, one_list, ← H.out, Lib.decDigits_one (show m < 10 by omega)]
      rw [hD] at hcv
      clear H hD
      go_wp2_with fail
      go_returns
      exact ⟨congrArg (fun s => Ending.returned (Value.string s)) HN.out.symm, hbel.alloc hsz _⟩

theorem plain_add (b o i : Nat) : (⟨b, o, none⟩ : Addr).add i = ⟨b, o + i, none⟩ := by unfold Addr.add; split <;> simp_all
set_option maxRecDepth 100000 in
set_option maxHeartbeats 1000000 in
theorem FormatUint10 (u : Nat) (hu : u < 4294967296) (w : World) (hp : Pow10 w) :
    Calls Tryd.prog 35 #[.int .u64 (u : Int), .int .i64 10] w fun e w' => e = .returned (.string ⟨(Lib.decDigits u).toArray⟩) ∧ Below w.heap.size w w' := by
  by_cases hs : u < 100
  · have hsI : (u : Int) < 100 := by omega
    have K := Tryd.internal_strconv_small u hs
    have KH := Lib.hid K
    clear K hs
    go_enter Tryd.func35, Tryd.ntmps35
    go_wp2_with fail
    refine (KH.out _).mono ?_
    rintro e w1 ⟨rfl, rfl⟩
    go_wp2_with fail
    go_returns
    exact ⟨rfl, Below.refl _ _⟩
  · have hsI : ¬ (u : Int) < 100 := by omega
    have hu1 : 1 ≤ u := by omega
    have hu64 : u < 18446744073709551616 := by omega
    have hnd20 : Lib.nDigits u ≤ 20 := by have := Lib.numDigits_eq u hu1 hu64; split at this <;> omega
    have hal : Tryd.prog.arrayLen 61 = 24 := by kernel_rfl
    have hsl1 : ∀ W, (Instr.sliceAt 61 (.pointer (some ⟨w.heap.size, 0, none⟩)) none (some (.int .i64 (Lib.nDigits u : Int))) none).run Tryd.prog W = .ok (.slice (some ⟨w.heap.size, 0, none⟩) (Lib.nDigits u) 24) W := fun W => by
      rw [run_sliceAt_array_h W 61 ⟨w.heap.size, 0, none⟩ Tryd.underlying61 .i64 (Lib.nDigits u : Int) (by omega) (by rw [hal]; omega)]
      go_simp
    have hH0 := Lib.holds_zero0 w 61 (Lib.nDigits u) (by omega)
    have hfmt := Tryd.internal_strconv_formatBase10 w.heap.size 0 24 u (Array.replicate (Lib.nDigits u) 0) (w.alloc (.cells Lib.zeros24 61)) hH0 (by rw [Array.size_replicate]; exact Lib.lt_pow_nDigits u) hu64 (by rw [Array.size_replicate]; omega)
    rw [Array.size_replicate] at hfmt
    have HH0 := Lib.hid hH0
    have hnum := Lib.hid (fun W h => Tryd.internal_strconv_numDigits u hu1 hu64 W h)
    have hfm := Lib.hid hfmt
    clear hH0 hal hs hfmt
    go_enter Tryd.func35, Tryd.ntmps35
    go_wp2_with fail
    refine (hnum.out _ (Lib.tabIs_alloc hp.2 _)).mono ?_
    rintro e w1 ⟨rfl, rfl⟩
    go_wp2_with fail
    refine hfm.out.mono ?_
    rintro e w2 ⟨rfl, k, v', dk, rfl, hF⟩
    have hcv : (convert 28 9 (.slice (some ⟨w.heap.size, 0, none⟩) (Lib.nDigits u) 24)).run Tryd.prog ((Go.Sort.putRow (fun (b : UInt8) => Value.int .u8 (b.toNat : Int)) (w.alloc (.cells Lib.zeros24 61)) w.heap.size 0 dk).drewN k) = .ok (.string ⟨(Lib.decDigits u).toArray⟩) ((Go.Sort.putRow (fun (b : UInt8) => Value.int .u8 (b.toNat : Int)) (w.alloc (.cells Lib.zeros24 61)) w.heap.size 0 dk).drewN k) := by
      have h := run_convert_bytes_back (P := Tryd.prog) ((Go.Sort.putRow (fun (b : UInt8) => Value.int .u8 (b.toNat : Int)) (w.alloc (.cells Lib.zeros24 61)) w.heap.size 0 dk).drewN k) 28 9 5 ⟨w.heap.size, 0, none⟩ 24 (Lib.decDigits u) Tryd.underlying28 Tryd.underlying5 Tryd.underlying9 (fun j hj => by
        rw [Lib.row_is_numeral hF j hj, plain_add, World.cell?_drewN]
        exact Go.Sort.cell?_putRow (fun (b : UInt8) => Value.int .u8 (b.toNat : Int)) _ w.heap.size 0 _ dk HH0.out (by rw [hF.size, Array.size_replicate]) j (by rw [hF.size]; rw [Lib.decDigits_length] at hj; exact hj))
      rw [Lib.decDigits_length] at h
      exact h
    have hbel : Below w.heap.size w ((Go.Sort.putRow (fun (b : UInt8) => Value.int .u8 (b.toNat : Int)) (w.alloc (.cells Lib.zeros24 61)) w.heap.size 0 dk).drewN k) := by
      obtain ⟨os, e⟩ := Lib.fin_at w (.cells Lib.zeros24 61) dk k 0
      rw [e]
      exact Lib.below_grow _ w (Nat.le_refl _) k os
    clear hnum hfm HH0 hF
    go_wp2_with fail
    go_returns
    exact ⟨rfl, hbel⟩

theorem sc_FormatUint10 (u : Nat) (hu : u < 4294967296) (w : World) (hp : Pow10 w) :
    Calls Tryd.prog 27 #[.int .u64 (u : Int), .int .i64 10] w fun e w' => e = .returned (.string ⟨(Lib.decDigits u).toArray⟩) ∧ Below w.heap.size w w' := by
  have K := FormatUint10 u hu w hp
  obtain ⟨T, hT⟩ : ∃ T : ByteArray, (⟨(Lib.decDigits u).toArray⟩ : ByteArray) = T := ⟨_, rfl⟩
  rw [hT] at K ⊢
  have KH := Lib.hid K
  clear K hp hT
  go_enter Tryd.func27, Tryd.ntmps27
  go_wp2_with fail
  refine KH.out.mono ?_
  rintro e w1 ⟨rfl, hb⟩
  go_wp2_with fail
  go_returns
  exact ⟨rfl, hb⟩
theorem word_Text (n : UInt32) (w : World) (hp : Pow10 w) :
    Calls Tryd.prog 13 #[.int .u32 n.toNat] w fun e w' => e = .returned (.string ⟨(Lib.decDigits n.toNat).toArray⟩) ∧ Below w.heap.size w w' := by
  have hn := n.toNat_lt
  have K := sc_FormatUint10 n.toNat (by omega) w hp
  obtain ⟨T, hT⟩ : ∃ T : ByteArray, (⟨(Lib.decDigits n.toNat).toArray⟩ : ByteArray) = T := ⟨_, rfl⟩
  rw [hT] at K ⊢
  have KH := Lib.hid K
  clear K hp hT
  go_enter Tryd.func13, Tryd.ntmps13
  go_wp2_with fail
  refine KH.out.mono ?_
  rintro e w1 ⟨rfl, hb⟩
  go_wp2_with fail
  go_returns
  exact ⟨rfl, hb⟩
end Go.Proofs.YtekpfpikbgiblaaDoor
