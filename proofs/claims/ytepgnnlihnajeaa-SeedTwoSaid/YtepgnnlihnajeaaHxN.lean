/- Layer 2, plain: dumps and texts are loaded back. No program in sight. -/
import Derived.Test.YtepgnnlihnajeaaHxP
import Derived.Test.YtepgnnlihnajeaaHxL
namespace Go.Proofs.Ytepgnnlihnajeaa
open Go.RowKit

theorem dec_nl (n : Nat) : ∀ c ∈ Lib.decDigits n, c.toNat ≠ 10 := by
  induction n using Nat.strongRecOn with
  | _ n ih =>
    intro c hc
    by_cases h : n < 10
    · rw [Lib.decDigits_one h] at hc
      simp only [List.mem_cons, List.not_mem_nil, or_false] at hc
      subst hc
      rw [UInt8.toNat_ofNat']
      omega
    · rw [dec_rec (by omega)] at hc
      rcases List.mem_append.1 hc with hc | hc
      · exact ih (n / 10) (by omega) c hc
      · simp only [List.mem_cons, List.not_mem_nil, or_false] at hc
        subst hc
        rw [UInt8.toNat_ofNat']
        omega
theorem tail_vals (n : Nat) : dvals false (dTail n) = [] ∧ noteS false (dTail n) = false := by
  obtain ⟨h1, h2⟩ := dvals_note _ (dec_nl n)
  unfold dTail
  rw [dvals_append, dvals_append, noteS_append, noteS_append, noteS_append]
  have e1 : dvals false [32, 32, 35, 32] = [] := by decide
  have e2 : noteS false [32, 32, 35, 32] = true := by decide
  have e3 : dvals true [10] = [] := by decide
  have e4 : noteS true [10] = false := by decide
  rw [e1, e2, h1, h2, e3, e4]
  exact ⟨rfl, rfl⟩
theorem body_vals (l : List UInt8) (i : Nat) : dvals false (dBody l i) = (hexT ((l.drop i).take 1)).map digV ∧ noteS false (dBody l i) = false := by
  have hd := dvals_digits (hexT_digits ((l.drop i).take 1))
  unfold dBody
  rw [dvals_append, noteS_append]
  split
  · exact ⟨hd.1, hd.2⟩
  · have e1 : dvals false [32] = [] := by decide
    have e2 : noteS false [32] = false := by decide
    rw [e1, e2]
    exact ⟨hd.1, hd.2⟩
theorem hexT_append (a b : List UInt8) : hexT (a ++ b) = hexT a ++ hexT b := by unfold hexT; rw [List.flatMap_append]
theorem dump_vals (l : List UInt8) (k : Nat) : dvals false (dumpTo l k) = (hexT (l.take k)).map digV ∧ noteS false (dumpTo l k) = false := by
  induction k with
  | zero => exact ⟨rfl, rfl⟩
  | succ k ih =>
    obtain ⟨b1, b2⟩ := body_vals l k
    have h1 : dvals false (dumpTo l k ++ dBody l k) = (hexT (l.take (k + 1))).map digV := by
      rw [dvals_append, ih.1, ih.2, b1, ← List.map_append, ← hexT_append, List.take_add]
    have h2 : noteS false (dumpTo l k ++ dBody l k) = false := by rw [noteS_append, ih.2, b2]
    obtain ⟨t1, t2⟩ := tail_vals (k - k % 16)
    rw [dumpTo]
    split
    · refine ⟨?_, ?_⟩
      · rw [dvals_append, h1, h2, t1, List.append_nil]
      · rw [noteS_append, h2, t2]
    · rw [List.append_nil]
      exact ⟨h1, h2⟩
theorem dumpL_vals (l : List UInt8) : dvals false (dumpL l) = (hexT l).map digV ∧ noteS false (dumpL l) = false := by
  have h := dump_vals l l.length
  rwa [List.take_length] at h
theorem load_dump (l : List UInt8) : loadL (dumpL l) = l := by rw [loadL_eq, (dumpL_vals l).1, ← pairs_eq, pairs_hexT]
theorem load_dump_text (a b : List UInt8) : loadL (dumpL a ++ hexT b) = a ++ b := by
  rw [loadL_eq, dvals_append, (dumpL_vals a).1, (dumpL_vals a).2, (dvals_digits (hexT_digits b)).1, ← List.map_append, ← hexT_append, ← pairs_eq, pairs_hexT]
theorem load_text_dump (a b : List UInt8) : loadL (hexT b ++ dumpL a) = b ++ a := by
  rw [loadL_eq, dvals_append, (dvals_digits (hexT_digits b)).1, (dvals_digits (hexT_digits b)).2, (dumpL_vals a).1, ← List.map_append, ← hexT_append, ← pairs_eq, pairs_hexT]
end Go.Proofs.Ytepgnnlihnajeaa
