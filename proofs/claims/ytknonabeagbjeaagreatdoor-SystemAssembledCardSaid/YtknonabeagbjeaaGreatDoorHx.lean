/- Layer 2, plain: hexadecimal digits, texts, and their reading. No program in sight. -/
import Derived.Test.YtknonabeagbjeaaGreatDoorPb
namespace Go.Proofs.YtknonabeagbjeaaGreatDoor
open Go.RowKit

/-- What a byte is worth as a digit; -1: it is none. -/
def digV (c : UInt8) : Int :=
  if 48 ≤ c.toNat ∧ c.toNat ≤ 57 then (c.toNat : Int) - 48 else if 97 ≤ c.toNat ∧ c.toNat ≤ 102 then (c.toNat : Int) - 87 else if 65 ≤ c.toNat ∧ c.toNat ≤ 70 then (c.toNat : Int) - 55 else -1
/-- The small digit that is worth n. -/
def smallN (n : Nat) : Nat := if n < 10 then 48 + n else 87 + n
def smallD (n : Nat) : UInt8 := UInt8.ofNat (smallN n)
def hexT (l : List UInt8) : List UInt8 := l.flatMap fun b => [smallD (b.toNat / 16), smallD (b.toNat % 16)]

theorem digV_lt (c : UInt8) : digV c < 16 := by unfold digV; repeat' split <;> omega
theorem digV_ge (c : UInt8) : -1 ≤ digV c := by unfold digV; repeat' split <;> omega
theorem digV_neg {c : UInt8} (h : digV c < 0) : digV c = -1 := by have := digV_ge c; omega
theorem smallN_lt (n : Nat) (h : n < 16) : smallN n < 256 := by unfold smallN; split <;> omega
theorem smallD_toNat (n : Nat) (h : n < 16) : (smallD n).toNat = smallN n := by
  unfold smallD; rw [UInt8.toNat_ofNat']; have := smallN_lt n h; omega
theorem smallD_bv (n : Nat) (h : n < 16) : bv (smallD n) = .int .u8 (smallN n : Nat) := by unfold bv; rw [smallD_toNat n h]
theorem digV_small (n : Nat) (h : n < 16) : digV (smallD n) = n := by
  have e := smallD_toNat n h
  unfold digV
  rw [e]
  unfold smallN
  repeat' split
  all_goals omega
/-- The letter that is looked for in the table. -/
def lowN (c : UInt8) : Nat := if 65 ≤ c.toNat ∧ c.toNat ≤ 70 then c.toNat + 32 else c.toNat
theorem dig_hit (c : UInt8) (k : Nat) (hk : k < 16) (h : smallN k = lowN c) : digV c = k := by
  unfold digV
  unfold lowN smallN at h
  repeat' split at h
  all_goals (repeat' split)
  all_goals omega
theorem dig_miss (c : UInt8) (h : ∀ k, k < 16 → smallN k ≠ lowN c) : digV c = -1 := by
  have hlt := digV_lt c
  have hge := digV_ge c
  by_cases h0 : 0 ≤ digV c
  · exfalso
    have hk := h (digV c).toNat (by omega)
    apply hk
    unfold digV at h0 ⊢
    unfold lowN smallN
    repeat' split at h0
    all_goals (repeat' split)
    all_goals omega
  · omega

theorem hexT_length (l : List UInt8) : (hexT l).length = 2 * l.length := by
  induction l with
  | nil => rfl
  | cons b r ih => unfold hexT at ih ⊢; rw [List.flatMap_cons, List.length_append, ih]; simp; omega
theorem hexT_snoc (l : List UInt8) (k : Nat) (h : k < l.length) : hexT (l.take (k + 1)) = hexT (l.take k) ++ [smallD (l[k].toNat / 16), smallD (l[k].toNat % 16)] := by
  unfold hexT
  rw [List.take_succ_eq_append_getElem h, List.flatMap_append]
  simp

/-- What the digits of a text give, two by two. -/
def pairs : List UInt8 → List UInt8
  | a :: b :: r => UInt8.ofNat ((digV a).toNat * 16 + (digV b).toNat) :: pairs r
  | _ => []
/-- A text's bytes; or the place of what is wrong. -/
def parseI (l : List UInt8) : List UInt8 × Nat × Bool :=
  match l.findIdx? (fun c => decide (digV c < 0)) with
  | some i => ([], i, false)
  | none => if l.length % 2 = 1 then ([], l.length, false) else (pairs l, 0, true)
def parseE (l : List UInt8) : Int := match (parseI l).2.2 with
  | true => 0
  | false => 3
theorem pairs_hexT (l : List UInt8) : pairs (hexT l) = l := by
  induction l with
  | nil => rfl
  | cons b r ih =>
    unfold hexT at ih ⊢
    rw [List.flatMap_cons]
    show UInt8.ofNat ((digV (smallD (b.toNat / 16))).toNat * 16 + (digV (smallD (b.toNat % 16))).toNat) :: pairs (List.flatMap (fun b => [smallD (b.toNat / 16), smallD (b.toNat % 16)]) r) = _
    have hb := b.toNat_lt
    rw [digV_small _ (by omega), digV_small _ (by omega), ih]
    congr 1
    rw [Int.toNat_natCast, Int.toNat_natCast, show b.toNat / 16 * 16 + b.toNat % 16 = b.toNat by omega]
    exact UInt8.ofNat_toNat
theorem hexT_digits (l : List UInt8) : ∀ c ∈ hexT l, 0 ≤ digV c := by
  intro c hc
  unfold hexT at hc
  obtain ⟨b, _, hb⟩ := List.mem_flatMap.1 hc
  have hb8 := b.toNat_lt
  simp only [List.mem_cons, List.not_mem_nil, or_false] at hb
  rcases hb with rfl | rfl
  · rw [digV_small _ (by omega)]; omega
  · rw [digV_small _ (by omega)]; omega
theorem parseI_digits {l : List UInt8} (h : ∀ c ∈ l, 0 ≤ digV c) (h2 : l.length % 2 = 0) : parseI l = (pairs l, 0, true) := by
  unfold parseI
  rw [List.findIdx?_eq_none_iff.2 (fun c hc => by simpa using h c hc)]
  dsimp only
  rw [if_neg (by omega)]
theorem parseI_hexT (l : List UInt8) : parseI (hexT l) = (l, 0, true) := by
  rw [parseI_digits (hexT_digits l) (by rw [hexT_length]; omega), pairs_hexT]
theorem hex2 (x : UInt8) : [smallD (x.toNat / 16), smallD (x.toNat % 16)].map bv = [.int .u8 (smallN (x.toNat / 16) : Nat), .int .u8 (smallN (x.toNat % 16) : Nat)] := by
  have hx := x.toNat_lt
  simp only [List.map_cons, List.map_nil]
  rw [smallD_bv _ (by omega), smallD_bv _ (by omega)]
theorem pairs_append (x y : List UInt8) (q : Nat) (h : x.length = 2 * q) : pairs (x ++ y) = pairs x ++ pairs y := by
  induction q generalizing x with
  | zero => obtain rfl := List.eq_nil_of_length_eq_zero h; rfl
  | succ q ih =>
    match x, h with
    | a :: b :: r, h =>
      show _ :: pairs (r ++ y) = _ :: pairs r ++ pairs y
      rw [ih r (by simp at h; omega)]
      rfl
theorem pairs_length (x : List UInt8) : (pairs x).length = x.length / 2 := by
  match x with
  | [] => rfl
  | [_] => simp [pairs]
  | _ :: _ :: r =>
    unfold pairs
    rw [List.length_cons, pairs_length r, List.length_cons, List.length_cons]
    omega
theorem pairs_snoc (l : List UInt8) (m : Nat) (h : 2 * m + 1 < l.length) : pairs (l.take (2 * (m + 1))) = pairs (l.take (2 * m)) ++ [UInt8.ofNat ((digV l[2 * m]).toNat * 16 + (digV l[2 * m + 1]).toNat)] := by
  have e : l.take (2 * (m + 1)) = l.take (2 * m) ++ [l[2 * m], l[2 * m + 1]] := by
    rw [show 2 * (m + 1) = 2 * m + 1 + 1 by omega, List.take_succ_eq_append_getElem h, List.take_succ_eq_append_getElem (by omega), List.append_assoc]
    rfl
  rw [e, pairs_append _ _ m (by rw [List.length_take]; omega)]
  rfl
theorem parse_bad {l : List UInt8} {k : Nat} (hk : k < l.length) (hno : ∀ i (h : i < l.length), i < k → 0 ≤ digV l[i]) (hb : digV l[k] < 0) : parseI l = ([], k, false) := by
  unfold parseI
  have : l.findIdx? (fun c => decide (digV c < 0)) = some k := by
    rw [List.findIdx?_eq_some_iff_getElem]
    refine ⟨hk, by simpa using hb, fun j hj => ?_⟩
    have := hno j (by omega) hj
    simp; omega
  rw [this]
theorem parse_all {l : List UInt8} (hno : ∀ i (h : i < l.length), 0 ≤ digV l[i]) : parseI l = if l.length % 2 = 1 then ([], l.length, false) else (pairs l, 0, true) := by
  unfold parseI
  rw [List.findIdx?_eq_none_iff.2 (fun c hc => by
    obtain ⟨i, hi, rfl⟩ := List.mem_iff_getElem.1 hc
    have := hno i hi
    simp; omega)]
end Go.Proofs.YtknonabeagbjeaaGreatDoor
