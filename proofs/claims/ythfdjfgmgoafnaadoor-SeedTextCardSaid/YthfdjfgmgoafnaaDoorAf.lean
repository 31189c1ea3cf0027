/- Layer 12, the document's: an operand, an instruction's shape, walked, at what the seed has. -/
import Derived.Test.YthfdjfgmgoafnaaDoorAd
namespace Go.Proofs.YthfdjfgmgoafnaaDoor
open Go.RowKit

theorem regA_some {l : List UInt8} {n : Nat} (h : regA l = some n) : 2 ≤ l.length ∧ l.length ≤ 60 ∧ l.head? = some 114 ∧ (parseW (l.drop 1)).2 = 0 ∧ (parseW (l.drop 1)).1.toNat = n ∧ n ≤ 15 := by
  unfold regA at h
  split at h
  · cases h
  · rename_i h1
    simp only at h
    split at h
    · rename_i h2
      injection h with h
      refine ⟨by omega, by omega, ?_, h2.1, h, by omega⟩
      cases hh : decide (l.head? = some 114) with
      | true => exact of_decide_eq_true hh
      | false => exact absurd (.inr (.inl (of_decide_eq_false hh))) h1
    · cases h
theorem numA_some {l : List UInt8} {n : Nat} (h : numA l = some n) : ∃ c r, l = c :: r ∧ c ≠ 39 ∧ c ≠ 48 ∧ l.length ≤ 60 ∧ (parseW l).2 = 0 ∧ (parseW l).1.toNat = n ∧ n ≤ 65535 := by
  unfold numA at h
  split at h
  · cases h
  · rename_i h0
    split at h
    · cases h
    · rename_i c r
      split at h
      · cases h
      · rename_i h1
        simp only at h
        split at h
        · rename_i h2
          injection h with h
          exact ⟨c, r, rfl, fun e => h1 (.inl e), fun e => h1 (.inr e), by omega, h2.1, h, by omega⟩
        · cases h
theorem ext_drop1 (t : ByteArray) (k : Nat) : (t.extract k t.size).data.toList = t.data.toList.drop k := by
  rw [Lib.extract_data]
  exact List.take_of_length_le (by rw [List.length_drop]; exact Nat.le_refl _)
theorem head_get {s : ByteArray} {c : UInt8} (h : s.data.toList.head? = some c) (h0 : 0 < s.size) : s[0]'h0 = c := by
  rw [List.head?_eq_getElem?, List.getElem?_eq_getElem (show 0 < s.data.toList.length from h0)] at h
  exact Option.some.inj h

theorem ref12_register (s : ByteArray) (n : Nat) (w : World) (h : regA s.data.toList = some n) :
    Calls Tryd.prog 37 #[.string s] w fun e w' => e = .returned (.int .i64 n) ∧ w' = w := by
  obtain ⟨h1, h2, h3, h4, h5, h6⟩ := regA_some h
  clear h
  have h1s : 2 ≤ s.size := h1
  have h2s : s.size ≤ 60 := h2
  have h1I : (2 : Int) ≤ s.size := by omega
  have h0I : (0 : Int) < s.size := by omega
  have h2I : (1 : Int) ≤ s.size := by omega
  have h0 : 0 < s.size := by omega
  have q0 : ((s[0]'h0).toNat : Int) = 114 := by rw [head_get h3 h0]; rfl
  obtain ⟨x, hx⟩ : ∃ x, s.extract 1 s.size = x := ⟨_, rfl⟩
  have hxl : x.data.toList = s.data.toList.drop 1 := by rw [← hx, ext_drop1]
  have hxz : x.size ≤ 60 := by rw [← hx, ByteArray.size_extract]; omega
  have K := refW_Parse x w (by omega)
  rw [hxl, h4] at K
  obtain ⟨P, hP⟩ : ∃ P, (parseW (s.data.toList.drop 1)).1.toNat = P := ⟨_, rfl⟩
  rw [hP] at K h5
  subst h5
  have KH := Lib.hid K
  have HX := Lib.hid hx
  have hnI : (P : Int) ≤ 15 := by omega
  clear K h1 h2 h3 h4 hx hxl hP
  go_enter Tryd.func37, Tryd.ntmps37
  go_wp2_with fail
  rw [HX.out]
  refine KH.out.mono ?_
  rintro e w1 ⟨rfl, hw1⟩
  subst w1
  go_wp2_with fail
  go_returns
  exact ⟨rfl, rfl⟩

set_option maxRecDepth 100000 in
theorem ref12_number (s : ByteArray) (n : Nat) (w : World) (h : numA s.data.toList = some n) :
    Calls Tryd.prog 38 #[.string s] w fun e w' => e = .returned (.tuple #[.int .u32 n, .int .i64 0]) ∧ w' = w := by
  obtain ⟨c, r, h1, h2, h3, h4, h5, h6, h7⟩ := numA_some h
  clear h
  have h0 : 0 < s.size := by
    have : s.data.toList.length = s.size := rfl
    rw [h1] at this
    simp at this
    omega
  have h4s : s.size ≤ 60 := h4
  have h0I : (0 : Int) < s.size := by omega
  have e0 : s[0]'h0 = c := head_get (by rw [h1]; rfl) h0
  have q0 : (((s[0]'h0).toNat : Int) == 39) = false := by
    rw [beq_eq_false_iff_ne, e0]
    intro e
    exact h2 (UInt8.toNat_inj.1 (by rw [show (39 : UInt8).toNat = 39 from rfl]; omega))
  have q1 : (((s[0]'h0).toNat : Int) == 48) = false := by
    rw [beq_eq_false_iff_ne, e0]
    intro e
    exact h3 (UInt8.toNat_inj.1 (by rw [show (48 : UInt8).toNat = 48 from rfl]; omega))
  have K := refW_Parse s w (by omega)
  rw [h5] at K
  obtain ⟨P, hP⟩ : ∃ P, (parseW s.data.toList).1.toNat = P := ⟨_, rfl⟩
  rw [hP] at K h6
  subst h6
  have KH := Lib.hid K
  clear K h1 h2 h3 h4 h5 hP e0
  rcases (show s.size = 3 ∨ (s.size ≠ 3 ∧ 2 < s.size) ∨ s.size ≤ 2 by omega) with h8 | ⟨h8, h9⟩ | h8
  · have q3 : ((s.size : Int) == 3) = true := by rw [h8]; rfl
    have q4 : (2 : Int) < s.size := by omega
    clear h8
    go_enter Tryd.func38, Tryd.ntmps38
    go_wp2_with fail
    refine KH.out.mono ?_
    rintro e w1 ⟨rfl, hw1⟩
    subst w1
    go_wp2_with fail
    go_returns
    exact ⟨rfl, rfl⟩
  · have q3 : ((s.size : Int) == 3) = false := by rw [beq_eq_false_iff_ne]; omega
    have q4 : (2 : Int) < s.size := by omega
    clear h8
    go_enter Tryd.func38, Tryd.ntmps38
    go_wp2_with fail
    refine KH.out.mono ?_
    rintro e w1 ⟨rfl, hw1⟩
    subst w1
    go_wp2_with fail
    go_returns
    exact ⟨rfl, rfl⟩
  · have q3 : ((s.size : Int) == 3) = false := by rw [beq_eq_false_iff_ne]; omega
    have q4 : ¬ (2 : Int) < s.size := by omega
    go_enter Tryd.func38, Tryd.ntmps38
    go_wp2_with fail
    refine KH.out.mono ?_
    rintro e w1 ⟨rfl, hw1⟩
    subst w1
    go_wp2_with fail
    go_returns
    exact ⟨rfl, rfl⟩

theorem shapeA_some {o sh : List UInt8} (h : shapeA o = some sh) :
    ((o = [108, 105] ∨ o = [106, 122] ∨ o = [106, 110, 122]) ∧ sh = [114, 110]) ∨ (o = [106, 109, 112] ∧ sh = [110]) ∨ ((o = [103, 101, 116] ∨ o = [112, 117, 116]) ∧ sh = [114]) ∨ (o = [104, 97, 108, 116] ∧ sh = []) ∨
    ((o = [101, 113] ∨ o = [115, 117, 98] ∨ o = [108, 116] ∨ o = [111, 114] ∨ o = [97, 100, 100] ∨ o = [115, 104, 108]) ∧ sh = [114, 114, 114]) := by
  unfold shapeA at h
  split at h
  · rename_i h1; injection h with h; exact .inl ⟨h1, h.symm⟩
  · split at h
    · rename_i h1; injection h with h; exact .inr (.inl ⟨h1, h.symm⟩)
    · split at h
      · rename_i h1; injection h with h; exact .inr (.inr (.inl ⟨h1, h.symm⟩))
      · split at h
        · rename_i h1; injection h with h; exact .inr (.inr (.inr (.inl ⟨h1, h.symm⟩)))
        · split at h
          · rename_i h1; injection h with h; exact .inr (.inr (.inr (.inr ⟨h1, h.symm⟩)))
          · cases h

set_option maxRecDepth 100000 in
set_option maxHeartbeats 4000000 in
theorem ref12_Shape (o sh : List UInt8) (w : World) (h : shapeA o = some sh) :
    Calls Tryd.prog 36 #[.string ⟨o.toArray⟩] w fun e w' => e = .returned (.string ⟨sh.toArray⟩) ∧ w' = w := by
  rcases shapeA_some h with ⟨rfl | rfl | rfl, rfl⟩ | ⟨rfl, rfl⟩ | ⟨rfl | rfl, rfl⟩ | ⟨rfl, rfl⟩ | ⟨rfl | rfl | rfl | rfl | rfl | rfl, rfl⟩
  all_goals clear h
  any_goals
    (go_enter Tryd.func36, Tryd.ntmps36; go_wp2_with fail; go_returns; exact ⟨rfl, rfl⟩)
  all_goals
    have K := ref_Op
    have KH := Lib.hid K
    clear K
    go_enter Tryd.func36, Tryd.ntmps36
    go_wp2_with fail
    refine (KH.out _ _).mono ?_
    first
      | rw [show opI (⟨#[101, 113]⟩ : ByteArray).data.toList = 15 from by decide]
      | rw [show opI (⟨#[115, 117, 98]⟩ : ByteArray).data.toList = 5 from by decide]
      | rw [show opI (⟨#[108, 116]⟩ : ByteArray).data.toList = 14 from by decide]
      | rw [show opI (⟨#[111, 114]⟩ : ByteArray).data.toList = 10 from by decide]
      | rw [show opI (⟨#[97, 100, 100]⟩ : ByteArray).data.toList = 4 from by decide]
      | rw [show opI (⟨#[115, 104, 108]⟩ : ByteArray).data.toList = 12 from by decide]
    rintro e w1 ⟨rfl, rfl⟩
    go_wp2_with fail
    go_returns
    exact ⟨rfl, rfl⟩
end Go.Proofs.YthfdjfgmgoafnaaDoor
