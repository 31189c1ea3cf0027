/- Layer 1 without a program: what a text is read as, and a word's text. -/
import Derived.Test.YtknonabeagbjeaaGreatDoorInI
namespace Go.Proofs.YtknonabeagbjeaaGreatDoor

def isD (x : UInt8) : Bool := decide (48 ≤ x.toNat ∧ x.toNat ≤ 57)
/-- A text's value, its bytes taken as digits. -/
def valL (l : List UInt8) : Nat := l.foldl (fun v x => v * 10 + (x.toNat - 48)) 0
def badHead (l : List UInt8) : Bool := decide (l = []) || (decide (1 < l.length) && decide (l.head? = some 48))
/-- What a text is read as: a word and an error (0, 3: the syntax, 2: the range). -/
def parseW (l : List UInt8) : UInt32 × Int :=
  if badHead l = true ∨ l.all isD = false then (0, 3) else if 4294967296 ≤ valL l then (0, 2) else (UInt32.ofNat (valL l), 0)

theorem head_app (r s : List UInt8) (h : r ≠ []) : (r ++ s).head? = r.head? := by
  cases r with
  | nil => exact absurd rfl h
  | cons => rfl
theorem snoc_of : ∀ (l : List UInt8), l ≠ [] → ∃ r x, l = r ++ [x]
  | [], h => absurd rfl h
  | [a], _ => ⟨[], a, rfl⟩
  | a :: b :: t, _ => by
    obtain ⟨r, x, e⟩ := snoc_of (b :: t) (by simp)
    exact ⟨a :: r, x, by rw [e]; rfl⟩
theorem valL_snoc (l : List UInt8) (x : UInt8) : valL (l ++ [x]) = valL l * 10 + (x.toNat - 48) := by unfold valL; rw [List.foldl_append]; rfl
theorem val_dec (n : Nat) : valL (Lib.decDigits n) = n := by
  induction n using Nat.strongRecOn with
  | _ n ih =>
    by_cases h : n < 10
    · rw [Lib.decDigits_one h]
      show 0 * 10 + ((UInt8.ofNat (48 + n)).toNat - 48) = n
      rw [UInt8.toNat_ofNat']
      omega
    · rw [dec_rec' (by omega), valL_snoc, ih (n / 10) (by omega), UInt8.toNat_ofNat']
      omega
theorem dec_isD (n : Nat) : (Lib.decDigits n).all isD = true := by
  induction n using Nat.strongRecOn with
  | _ n ih =>
    by_cases h : n < 10
    · rw [Lib.decDigits_one h, List.all_cons, List.all_nil, Bool.and_true]
      unfold isD
      rw [UInt8.toNat_ofNat']
      exact decide_eq_true (by omega)
    · rw [dec_rec' (by omega), List.all_append, ih (n / 10) (by omega), List.all_cons, List.all_nil, Bool.and_true, Bool.true_and]
      unfold isD
      rw [UInt8.toNat_ofNat']
      exact decide_eq_true (by omega)
theorem dec_head (n : Nat) : Lib.decDigits n ≠ [] ∧ (0 < n → (Lib.decDigits n).head? ≠ some 48) := by
  induction n using Nat.strongRecOn with
  | _ n ih =>
    by_cases h : n < 10
    · rw [Lib.decDigits_one h]
      refine ⟨by simp, fun h0 e => ?_⟩
      have e2 : UInt8.ofNat (48 + n) = 48 := Option.some.inj e
      have e3 := congrArg UInt8.toNat e2
      rw [UInt8.toNat_ofNat', show (48 : UInt8).toNat = 48 from rfl] at e3
      omega
    · obtain ⟨h1, h2⟩ := ih (n / 10) (by omega)
      rw [dec_rec' (by omega)]
      refine ⟨by simp, fun _ => ?_⟩
      rw [head_app _ _ h1]
      exact h2 (by omega)
theorem dec_bad (n : Nat) : badHead (Lib.decDigits n) = false := by
  obtain ⟨h1, h2⟩ := dec_head n
  unfold badHead
  rw [decide_eq_false h1, Bool.false_or]
  by_cases h : 0 < n
  · rw [decide_eq_false (h2 h), Bool.and_false]
  · obtain rfl : n = 0 := by omega
    rw [Lib.decDigits_one (by decide)]
    rfl
theorem parse_dec (n : UInt32) : parseW (Lib.decDigits n.toNat) = (n, 0) := by
  have hn := n.toNat_lt
  unfold parseW
  rw [if_neg (by rw [dec_bad, dec_isD]; simp), val_dec, if_neg (by omega), UInt32.ofNat_toNat]
theorem ofNat_digit (x : UInt8) (h : isD x = true) : UInt8.ofNat (48 + (x.toNat - 48)) = x := by
  have h1 := of_decide_eq_true h
  rw [show 48 + (x.toNat - 48) = x.toNat by omega, UInt8.ofNat_toNat]
/-- Digits without a nought ahead are their value's text. -/
theorem dec_val : ∀ (k : Nat) (l : List UInt8), l.length = k → l ≠ [] → l.all isD = true → (1 < l.length → l.head? ≠ some 48) → Lib.decDigits (valL l) = l := by
  intro k
  induction k with
  | zero => intro l hl h0; exact absurd (List.eq_nil_of_length_eq_zero hl) h0
  | succ k ih =>
    intro l hl h0 hd hh
    obtain ⟨r, x, rfl⟩ := snoc_of l h0
    rw [List.all_append, Bool.and_eq_true] at hd
    obtain ⟨hd1, hd2⟩ := hd
    have hx : isD x = true := by simpa using hd2
    have hx2 := of_decide_eq_true hx
    rw [valL_snoc]
    by_cases hr : r = []
    · subst hr
      show Lib.decDigits (0 * 10 + (x.toNat - 48)) = [x]
      rw [Nat.zero_mul, Nat.zero_add, Lib.decDigits_one (by omega), ofNat_digit x hx]
    · have hrh : r.head? ≠ some 48 := by
        have := hh (by rw [List.length_append]; have := List.length_pos_iff.2 hr; simp only [List.length_singleton]; omega)
        rwa [head_app _ _ hr] at this
      have e := ih r (by rw [List.length_append] at hl; simpa using hl) hr hd1 (fun _ => hrh)
      have hpos : 1 ≤ valL r := by
        rcases Nat.eq_zero_or_pos (valL r) with h | h
        · exfalso
          rw [h, Lib.decDigits_one (by decide)] at e
          exact hrh (by rw [← e]; rfl)
        · exact h
      rw [dec_rec' (by omega), show (valL r * 10 + (x.toNat - 48)) / 10 = valL r by omega, show (valL r * 10 + (x.toNat - 48)) % 10 = x.toNat - 48 by omega, e, ofNat_digit x hx]
theorem parse_back (l : List UInt8) (h : (parseW l).2 = 0) : Lib.decDigits (parseW l).1.toNat = l := by
  unfold parseW at h ⊢
  split at h
  · exact absurd h (by decide)
  rename_i h1
  split at h
  · exact absurd h (by decide)
  rename_i h2
  rw [if_neg h1, if_neg h2]
  have hb : badHead l = false := by cases hh : badHead l with | false => rfl | true => exact absurd (Or.inl hh) h1
  have ha : l.all isD = true := by cases hh : l.all isD with | true => rfl | false => exact absurd (Or.inr hh) h1
  unfold badHead at hb
  rw [Bool.or_eq_false_iff] at hb
  obtain ⟨hb1, hb2⟩ := hb
  show Lib.decDigits (UInt32.ofNat (valL l)).toNat = l
  rw [UInt32.toNat_ofNat', Nat.mod_eq_of_lt (by omega)]
  refine dec_val l.length l rfl (of_decide_eq_false hb1) ha (fun hl => ?_)
  rw [decide_eq_true hl, Bool.true_and] at hb2
  exact of_decide_eq_false hb2
/-- A long text of digits is above all words. -/
theorem val_long (l : List UInt8) (hb : badHead l = false) (ha : l.all isD = true) (hl : 10 < l.length) : 4294967296 ≤ valL l := by
  apply Classical.byContradiction
  intro h
  unfold badHead at hb
  rw [Bool.or_eq_false_iff] at hb
  obtain ⟨hb1, hb2⟩ := hb
  rw [decide_eq_true (by omega : 1 < l.length), Bool.true_and] at hb2
  have e := dec_val l.length l rfl (of_decide_eq_false hb1) ha (fun _ => of_decide_eq_false hb2)
  have e2 := dec_length32 (valL l) (by omega)
  rw [e] at e2
  omega
end Go.Proofs.YtknonabeagbjeaaGreatDoor
