/- Layer 1's decimal text in the document's answer, walked; and the program's own, of an int. -/
import Derived.Test.YtneebohaanjejaaDoorApp
import Derived.Test.YtneebohaanjejaaDoorInB
import Derived.Test.YtneebohaanjejaaDoorShE
import Derived.Lib.ItoaMem
namespace Go.Proofs.YtneebohaanjejaaDoor
open Go.RowKit

theorem cv1 (x : Int) (y : UInt8) (hy : x = (y.toNat : Int)) (W : World) : (convert 54 9 (.slice (some ⟨W.heap.size, 0, none⟩) 1 1)).run Tryd.prog (W.alloc (.cells #[.int .u8 x] 5)) = .ok (.string ⟨#[y]⟩) (W.alloc (.cells #[.int .u8 x] 5)) := by
  subst hy
  exact run_string_row [y] 54 9 Tryd.underlying54 Tryd.underlying5 Tryd.underlying9 (own_lit1 W _ W.heap.size (Nat.le_refl _) _)
theorem dec_rec' {n : Nat} (h : 10 ≤ n) : Lib.decDigits n = Lib.decDigits (n / 10) ++ [UInt8.ofNat (48 + n % 10)] := by
  conv => lhs; rw [Lib.decDigits]
  rw [dif_neg (by omega)]
theorem dec_length32 (n : Nat) (h : n < 4294967296) : (Lib.decDigits n).length ≤ 10 := by
  have key : ∀ k n, n < 10 ^ (k + 1) → (Lib.decDigits n).length ≤ k + 1 := by
    intro k
    induction k with
    | zero => intro n hn; rw [Lib.decDigits_one (by omega)]; simp
    | succ k ih =>
      intro n hn
      by_cases h10 : n < 10
      · rw [Lib.decDigits_one h10]; simp
      · rw [dec_rec' (by omega), List.length_append]
        have h2 := ih (n / 10) (by rw [Nat.pow_succ] at hn; omega)
        simp only [List.length_singleton]
        omega
  exact key 9 n (by omega)
theorem ba_size (t : ByteArray) : t.size = t.data.toList.length := rfl
theorem ba_app (a b : ByteArray) : (a ++ b).data.toList = a.data.toList ++ b.data.toList := by
  rw [ByteArray.data_append, Array.toList_append]
theorem one_list (x : UInt8) : (⟨#[x]⟩ : ByteArray).data.toList = [x] := rfl

set_option maxHeartbeats 1000000 in
theorem ref01_Text (n : Nat) (hn : n < 4294967296) (w : World) :
    Calls Tryd.prog 81 #[.int .u32 (n : Int)] w fun e w' => e = .returned (.string ⟨(Lib.decDigits n).toArray⟩) ∧ Below w.heap.size w w' := by
  have hdl := dec_length32 n hn
  go_enter Tryd.func81, Tryd.ntmps81
  go_wp2_with fail
  go_loopw [0, 3] (fun nv v wr => ∃ (m : Nat) (t : ByteArray), m ≤ n ∧ nv = .int .u32 m ∧ v = .string t ∧ t.size ≤ 10 ∧ Hid (Lib.decDigits m ++ t.data.toList = Lib.decDigits n) ∧ Below w.heap.size w wr) (fun nv _ _ => (intOf nv).toNat)
  case atStart => exact ⟨n, ⟨#[]⟩, Nat.le_refl _, rfl, rfl, by decide, List.append_nil _, Below.refl _ _⟩
  case round =>
    obtain ⟨m, t, hm, rfl, rfl, ht, H, hbel⟩ := hrel
    have hsz := hbel.size
    by_cases h9 : 9 < m
    · have hcv := cv1 (48 + (m : Int) % 10) (UInt8.ofNat (48 + m % 10)) (by rw [UInt8.toNat_ofNat']; omega)
      obtain ⟨D, hD⟩ : ∃ D : ByteArray, (⟨#[UInt8.ofNat (48 + m % 10)]⟩ : ByteArray) = D := ⟨_, rfl⟩
      have hds : D.size = 1 := by rw [← hD]; rfl
      have HN : Hid (Lib.decDigits (m / 10) ++ (D ++ t).data.toList = Lib.decDigits n) := by
        unfold Hid
        rw [ba_app, ← hD, one_list, ← H.out, dec_rec' (show 10 ≤ m by omega), List.append_assoc]
      have hts : (D ++ t).size ≤ 10 := by
        have h2 := congrArg List.length HN.out
        have h3 := Lib.decDigits_length (m / 10)
        have h4 : (D ++ t).size = (D ++ t).data.toList.length := rfl
        rw [List.length_append] at h2
        omega
      rw [hD] at hcv
      clear H hD
      go_wp2_with fail
      go_roundw
      case rel => exact ⟨m / 10, D ++ t, by omega, by go_num, rfl, hts, HN, hbel.alloc hsz _⟩
      case measure => simp [intOf]; omega
    · have hcv := cv1 (48 + (m : Int)) (UInt8.ofNat (48 + m)) (by rw [UInt8.toNat_ofNat']; omega)
      obtain ⟨D, hD⟩ : ∃ D : ByteArray, (⟨#[UInt8.ofNat (48 + m)]⟩ : ByteArray) = D := ⟨_, rfl⟩
      have hds : D.size = 1 := by rw [← hD]; rfl
      have HN : Hid ((⟨(Lib.decDigits n).toArray⟩ : ByteArray) = D ++ t) := by
        apply ba_inj
        rw [ba_app, ← hD, one_list, ← H.out, Lib.decDigits_one (show m < 10 by omega)]
      rw [hD] at hcv
      clear H hD
      go_wp2_with fail
      go_returns
      exact ⟨congrArg (fun s => Ending.returned (Value.string s)) HN.out.symm, hbel.alloc hsz _⟩
end Go.Proofs.YtneebohaanjejaaDoor
