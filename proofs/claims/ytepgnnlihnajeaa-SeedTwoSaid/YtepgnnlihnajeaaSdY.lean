/- Layer 50, plain: two texts, one behind the other; texts with notes. No program in sight. -/
import Derived.Test.YtepgnnlihnajeaaHxN
namespace Go.Proofs.Ytepgnnlihnajeaa
open Go.RowKit

/-- How many digits stand outside of notes. -/
def digN (l : List UInt8) : Nat := (dvals false l).length
theorem load_two (s t : List UInt8) (h : digN s % 2 = 0) : loadL (s ++ [10] ++ t) = loadL s ++ loadL t := by
  rw [loadL_eq, loadL_eq, loadL_eq, List.append_assoc, dvals_append]
  have e : dvals (noteS false s) ([10] ++ t) = dvals false t := rfl
  rw [e]
  exact pairV_append _ _ (digN s / 2) (by show digN s = _; omega)
theorem load_len (s : List UInt8) : (loadL s).length = digN s / 2 := by rw [loadL_eq, pairV_length]; rfl
theorem digN_le (l : List UInt8) : digN l ≤ l.length := dvals_length l false
/-- What a byte adds. -/
def digA (n : Bool) (c : UInt8) : Nat := if c.toNat = 10 then 0 else if n = true then 0 else if c.toNat = 35 then 0 else if digV c < 0 then 0 else 1
def noteA (n : Bool) (c : UInt8) : Bool := if c.toNat = 10 then false else if n = true then n else if c.toNat = 35 then true else n
theorem digN_snoc (l : List UInt8) (k : Nat) (h : k < l.length) : digN (l.take (k + 1)) = digN (l.take k) + digA (noteS false (l.take k)) l[k] ∧ noteS false (l.take (k + 1)) = noteA (noteS false (l.take k)) l[k] := by
  rw [List.take_succ_eq_append_getElem h]
  constructor
  · unfold digN digA
    rw [dvals_append, List.length_append, dvals_cons]
    repeat' split
    all_goals rfl
  · rw [noteS_append, noteS_cons]
    unfold noteA
    repeat' split
    all_goals rfl
/-- A text with a note behind each byte. -/
def noted (s note : List UInt8) : List UInt8 := s.flatMap fun b => hexT [b] ++ [32, 35] ++ note ++ [10]
theorem noted_snoc (s note : List UInt8) (k : Nat) (h : k < s.length) : noted (s.take (k + 1)) note = noted (s.take k) note ++ (hexT [s[k]] ++ [32, 35] ++ note ++ [10]) := by
  unfold noted
  rw [List.take_succ_eq_append_getElem h, List.flatMap_append]
  simp
theorem noted_len (s note : List UInt8) : (noted s note).length = s.length * (note.length + 5) := by
  induction s with
  | nil => rw [List.length_nil, Nat.zero_mul]; rfl
  | cons b r ih =>
    have e : noted (b :: r) note = (hexT [b] ++ [32, 35] ++ note ++ [10]) ++ noted r note := rfl
    rw [e, List.length_append, ih]
    simp only [List.length_append, hexT_length, List.length_cons, List.length_nil]
    rw [Nat.add_mul, Nat.one_mul]
    omega
theorem load_noted (s note : List UInt8) (hn : ∀ c ∈ note, c.toNat ≠ 10) : loadL (noted s note) = s := by
  have key : ∀ b : UInt8, dvals false (hexT [b] ++ [32, 35] ++ note ++ [10]) = (hexT [b]).map digV ∧ noteS false (hexT [b] ++ [32, 35] ++ note ++ [10]) = false := by
    intro b
    obtain ⟨h1, h2⟩ := dvals_digits (hexT_digits [b])
    obtain ⟨n1, n2⟩ := dvals_note note hn
    have e2 : noteS false (hexT [b] ++ [32, 35]) = true := by rw [noteS_append, h2]; decide
    have d2 : dvals false (hexT [b] ++ [32, 35]) = (hexT [b]).map digV := by
      rw [dvals_append, h1, h2, show dvals false [32, 35] = [] by decide, List.append_nil]
    have e3 : noteS false (hexT [b] ++ [32, 35] ++ note) = true := by rw [noteS_append, e2, n2]
    have d3 : dvals false (hexT [b] ++ [32, 35] ++ note) = (hexT [b]).map digV := by rw [dvals_append, d2, e2, n1, List.append_nil]
    exact ⟨by rw [dvals_append, d3, e3, show dvals true [10] = [] by decide, List.append_nil], by rw [noteS_append, e3]; decide⟩
  have all : ∀ l : List UInt8, dvals false (noted l note) = (hexT l).map digV ∧ noteS false (noted l note) = false := by
    intro l
    induction l with
    | nil => exact ⟨rfl, rfl⟩
    | cons b r ih =>
      have e : noted (b :: r) note = (hexT [b] ++ [32, 35] ++ note ++ [10]) ++ noted r note := rfl
      have e2 : hexT (b :: r) = hexT [b] ++ hexT r := rfl
      obtain ⟨k1, k2⟩ := key b
      generalize hexT [b] ++ [32, 35] ++ note ++ [10] = P at e k1 k2
      rw [e, e2, dvals_append, noteS_append, k1, k2, ih.1, ih.2, List.map_append]
      exact ⟨rfl, rfl⟩
  rw [loadL_eq, (all s).1, ← (dvals_digits (hexT_digits s)).1, ← loadL_eq, load_hexT]
end Go.Proofs.Ytepgnnlihnajeaa
