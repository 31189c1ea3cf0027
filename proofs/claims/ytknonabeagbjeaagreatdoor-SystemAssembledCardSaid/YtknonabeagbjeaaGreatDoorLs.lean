/- Layer 11 without a program: an image's text, line by line; what the text tells. -/
import Derived.Test.YtknonabeagbjeaaGreatDoorInP
namespace Go.Proofs.YtknonabeagbjeaaGreatDoor
open Go.RowKit

/-- Does the word jump? (Where to: cD.) -/
def jmpB (x : UInt32) : Bool := decB x && decide (18 ≤ opD x ∧ opD x ≤ 21)
/-- Is the place a target? -/
def isT (code : List UInt32) (i : Nat) : Bool := code.any fun x => jmpB x && decide (cD x = (i : Int))
def targL (code : List UInt32) : List Nat := (List.range code.length).filter (isT code)
def lS : ByteArray := ⟨#[76]⟩
/-- An instruction's fields as they stand in a listing of so many words. -/
def fldJ (x : UInt32) (n : Nat) : List (ByteArray × Nat) :=
  (if shA (opD x) then [(rS, (aD x).toNat)] else []) ++ ((if shB (opD x) then [(rS, (bD x).toNat)] else []) ++
    (if shC (opD x) = 1 then [(if jmpB x && decide (cD x < (n : Int)) then lS else emS, (cD x).toNat)] else if shC (opD x) = 2 then [(rS, (cD x).toNat)] else []))
/-- What stands in a word's line behind the two blanks. -/
def itemL (x : UInt32) (n : Nat) : List UInt8 :=
  if decB x = true then nameI (opD x) ++ tailL [32] (fldJ x n) else [46, 119, 111, 114, 100, 32] ++ Lib.decDigits x.toNat
def lblL (i : Nat) : List UInt8 := [76] ++ (Lib.decDigits i ++ [58])
def rowP (code : List UInt32) (i : Nat) : List (List UInt8) := (if isT code i then [lblL i] else []) ++ [[32, 32] ++ itemL (code.getD i 0) code.length]
def hdrL (d : Nat) : List UInt8 := [46, 100, 97, 116, 97, 32] ++ Lib.decDigits d
def linesP (code : List UInt32) (d k : Nat) : List (List UInt8) := hdrL d :: (List.range k).flatMap (rowP code)
def lfs (l : List (List UInt8)) : List UInt8 := l.flatMap (· ++ [10])
def textP (code : List UInt32) (d k : Nat) : List UInt8 := lfs (linesP code d k)
def textT (code : List UInt32) (d : Nat) : List UInt8 := textP code d code.length

theorem lfs_append (a b : List (List UInt8)) : lfs (a ++ b) = lfs a ++ lfs b := by unfold lfs; rw [List.flatMap_append]
theorem lfs_cons (x : List UInt8) (l : List (List UInt8)) : lfs (x :: l) = x ++ ([10] ++ lfs l) := by unfold lfs; rw [List.flatMap_cons, List.append_assoc]
theorem linesP_succ (code : List UInt32) (d k : Nat) : linesP code d (k + 1) = linesP code d k ++ rowP code k := by
  unfold linesP
  rw [List.range_succ, List.flatMap_append, List.flatMap_singleton, List.cons_append]
theorem textP_succ (code : List UInt32) (d k : Nat) : textP code d (k + 1) = textP code d k ++ lfs (rowP code k) := by
  unfold textP
  rw [linesP_succ, lfs_append]

/-- The lines of a text; what stands behind the last line feed is none. -/
def linesA : List UInt8 → List UInt8 → List (List UInt8)
  | _, [] => []
  | acc, c :: r => if c.toNat = 10 then acc :: linesA [] r else linesA (acc ++ [c]) r
def noLf (l : List UInt8) : Bool := l.all fun c => decide (c.toNat ≠ 10)
theorem linesA_line : ∀ (l acc r : List UInt8), noLf l = true → linesA acc (l ++ ([10] ++ r)) = (acc ++ l) :: linesA [] r
  | [], acc, r, _ => by
    rw [List.append_nil]
    rfl
  | c :: l, acc, r, h => by
    unfold noLf at h
    rw [List.all_cons, Bool.and_eq_true] at h
    have hc := of_decide_eq_true h.1
    have ih := linesA_line l (acc ++ [c]) r h.2
    rw [List.cons_append, linesA, if_neg hc, ih]
    simp
theorem linesA_lfs : ∀ l : List (List UInt8), l.all noLf = true → linesA [] (lfs l) = l
  | [], _ => rfl
  | x :: l, h => by
    rw [List.all_cons, Bool.and_eq_true] at h
    rw [lfs_cons, linesA_line _ _ _ h.1, linesA_lfs l h.2, List.nil_append]

theorem noLf_append (a b : List UInt8) : noLf (a ++ b) = (noLf a && noLf b) := by unfold noLf; rw [List.all_append]
theorem noLf_dec (n : Nat) : noLf (Lib.decDigits n) = true := by
  unfold noLf
  rw [List.all_eq_true]
  intro x hx
  have h := dec_digs n x hx
  unfold isDig at h
  have h2 := of_decide_eq_true h
  exact decide_eq_true (by omega)
theorem noLf_tail : ∀ (l : List (ByteArray × Nat)) (s : List UInt8), noLf s = true → (∀ p ∈ l, noLf p.1.data.toList = true) → noLf (tailL s l) = true
  | [], s, _, _ => rfl
  | (p, n) :: l, s, hs, h => by
    unfold tailL
    have ih := noLf_tail l [44, 32] rfl (fun q hq => h q (List.mem_cons_of_mem _ hq))
    have hp := h (p, n) List.mem_cons_self
    rw [noLf_append, noLf_append, noLf_append, hs, hp, noLf_dec, ih]
    rfl
/-- What may stand ahead of a field's number. -/
def okPre (p : ByteArray) : Prop := p = rS ∨ p = emS ∨ p = lS
theorem fldJ_pre (x : UInt32) (n : Nat) : ∀ p ∈ fldJ x n, okPre p.1 := by
  intro p hp
  unfold fldJ at hp
  unfold okPre
  repeat' split at hp
  all_goals simp at hp
  all_goals first | (rcases hp with rfl | rfl | rfl <;> simp) | (rcases hp with rfl | rfl <;> simp) | (subst hp; simp) | exact absurd hp id
theorem pre_noLf {p : ByteArray} (h : okPre p) : noLf p.data.toList = true := by
  rcases h with rfl | rfl | rfl <;> decide
theorem name_noLf : ∀ k, k < 28 → noLf (nameI ((k : Nat) : Int)) = true := by decide
theorem dec_op {x : UInt32} (h : decB x = true) : ∃ k : Nat, k < 28 ∧ 1 ≤ k ∧ opD x = k := by
  unfold decB at h
  obtain ⟨hio, _⟩ := right_bounds h
  obtain ⟨k, k1, k2, e⟩ := op_cases _ hio
  exact ⟨k, by omega, k1, e⟩
theorem item_noLf (x : UInt32) (n : Nat) : noLf (itemL x n) = true := by
  unfold itemL
  split
  · rename_i h
    obtain ⟨k, k1, _, e⟩ := dec_op h
    rw [noLf_append, e, name_noLf k k1, noLf_tail _ _ rfl (fun p hp => pre_noLf (fldJ_pre x n p hp))]
    rfl
  · rw [noLf_append, noLf_dec]
    decide
theorem row_noLf (code : List UInt32) (i : Nat) : (rowP code i).all noLf = true := by
  unfold rowP
  rw [List.all_append]
  have h1 : noLf (lblL i) = true := by
    unfold lblL
    rw [noLf_append, noLf_append, noLf_dec]
    decide
  have h2 : noLf ([32, 32] ++ itemL (code.getD i 0) code.length) = true := by
    rw [noLf_append, item_noLf]
    decide
  split <;> simp only [List.all_cons, List.all_nil, h1, h2, Bool.and_true]
theorem lines_noLf (code : List UInt32) (d k : Nat) : (linesP code d k).all noLf = true := by
  unfold linesP
  rw [List.all_cons, Bool.and_eq_true]
  constructor
  · unfold hdrL
    rw [noLf_append, noLf_dec]
    decide
  · rw [List.all_eq_true]
    intro l hl
    obtain ⟨i, _, hi⟩ := List.mem_flatMap.1 hl
    exact List.all_eq_true.1 (row_noLf code i) l hi
theorem lines_text (code : List UInt32) (d k : Nat) : linesA [] (textP code d k) = linesP code d k := linesA_lfs _ (lines_noLf code d k)
end Go.Proofs.YtknonabeagbjeaaGreatDoor
