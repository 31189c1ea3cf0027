/- Layer 12 without a program: what the assembler reads of a line without labels. -/
/- Layer 12, the document's: what a byte is; find, trim: walked. -/
/- Layer 12, the document's: trim, walked. -/
/- Layer 12, the document's: isWord at a word of small letters, walked. -/
/- Layer 12, the document's: a text's lines, walked. -/
import Derived.Test.YthfdjfgmgoafnaaDoorWrR
import Derived.Test.YthfdjfgmgoafnaaDoorInH
import Derived.Test.YthfdjfgmgoafnaaDoorInK
namespace Go.Proofs.YthfdjfgmgoafnaaDoor

def blankB (c : UInt8) : Bool := c == 32 || c == 9
def smallB (c : UInt8) : Bool := decide (97 ≤ c.toNat) && decide (c.toNat ≤ 122)
def findL (c : UInt8) : List UInt8 → Nat
  | [] => 0
  | x :: r => if x = c then 0 else findL c r + 1
def blankAt : List UInt8 → Nat
  | [] => 0
  | x :: r => if blankB x then 0 else blankAt r + 1
def trimR (l : List UInt8) : List UInt8 := (l.reverse.dropWhile blankB).reverse
def trimL (l : List UInt8) : List UInt8 := trimR (l.dropWhile blankB)

theorem findL_le (c : UInt8) : ∀ l, findL c l ≤ l.length
  | [] => Nat.le_refl _
  | x :: r => by
    have := findL_le c r
    unfold findL
    split <;> simp <;> omega
theorem blankAt_le : ∀ l, blankAt l ≤ l.length
  | [] => Nat.le_refl _
  | x :: r => by
    have := blankAt_le r
    unfold blankAt
    split <;> simp <;> omega
theorem trimR_snoc (l : List UInt8) (c : UInt8) (h : blankB c = true) : trimR (l ++ [c]) = trimR l := by
  unfold trimR
  rw [List.reverse_append]
  simp [h]
theorem trimR_end (l : List UInt8) (c : UInt8) (h : blankB c = false) : trimR (l ++ [c]) = l ++ [c] := by
  unfold trimR
  rw [List.reverse_append]
  simp [h]

/-- The operands of a line, one behind the other, a comma between two. -/
def argsA : Nat → List UInt8 → Option (List (List UInt8))
  | 0, _ => none
  | f + 1, r =>
    if r = [] then some [] else
    let k := findL 44 r
    let a := trimL (r.take k)
    if a = [] ∨ k + 1 = r.length then none else
    if k = r.length then some [a] else
    let t := trimL (r.drop (k + 1))
    if t = [] then none else (argsA f t).map (a :: ·)
/-- A line without a label: its word, its operands; two empty rows, if there is nothing. -/
def lineA (l : List UInt8) : Option (List UInt8 × List (List UInt8)) :=
  let u := trimL (l.take (findL 35 l))
  if findL 58 u < u.length then none else
  if u = [] then some ([], []) else
  let o := u.take (blankAt u)
  if o = [] ∨ o.all smallB = false then none else
  (argsA (u.length + 1) (trimL (u.drop (blankAt u)))).map fun ags => (o, ags)

def regA (l : List UInt8) : Option Nat :=
  if l.length < 2 ∨ l.head? ≠ some 114 ∨ 60 < l.length then none else
  let p := parseW (l.drop 1)
  if p.2 = 0 ∧ p.1.toNat ≤ 15 then some p.1.toNat else none
def numA (l : List UInt8) : Option Nat :=
  if 60 < l.length then none else
  match l with
  | [] => none
  | c :: _ => if c = 39 ∨ c = 48 then none else
    let p := parseW l
    if p.2 = 0 ∧ p.1.toNat ≤ 65535 then some p.1.toNat else none
/-- The fields that a word asks for, of the words that the seed has. -/
def shapeA (o : List UInt8) : Option (List UInt8) :=
  if o = [108, 105] ∨ o = [106, 122] ∨ o = [106, 110, 122] then some [114, 110] else
  if o = [106, 109, 112] then some [110] else
  if o = [103, 101, 116] ∨ o = [112, 117, 116] then some [114] else
  if o = [104, 97, 108, 116] then some [] else
  if o = [101, 113] ∨ o = [115, 117, 98] ∨ o = [108, 116] ∨ o = [111, 114] ∨ o = [97, 100, 100] ∨ o = [115, 104, 108] then some [114, 114, 114] else none
/-- The fields of operands, ags the shape asks for them. -/
def fieldsA : List UInt8 → List (List UInt8) → Option (List Nat)
  | [], [] => some []
  | s :: sh, a :: ags =>
    match (if s = 114 then regA a else numA a), fieldsA sh ags with
    | some x, some xs => some (x :: xs)
    | _, _ => none
  | _, _ => none
/-- The word's fields a, b, c of a shape's fields. -/
def abcA (sh : List UInt8) (f : List Nat) : Int × Int × Int :=
  if sh = [114, 110] then (f.getD 0 0, 0, f.getD 1 0) else
  if sh = [110] then (0, 0, f.getD 0 0) else
  (f.getD 0 0, f.getD 1 0, f.getD 2 0)
def wordA (o : List UInt8) (ags : List (List UInt8)) : Option UInt32 :=
  match shapeA o with
  | none => none
  | some sh => match fieldsA sh ags with
    | none => none
    | some f => let t := abcA sh f
      if rightI (opI o) t.1 t.2.1 t.2.2 = true then some (UInt32.ofNat (encI (opI o) t.1 t.2.1 t.2.2).toNat) else none
/-- A text's lines. -/
def linesN : Nat → List UInt8 → List (List UInt8)
  | 0, _ => []
  | f + 1, t => if findL 10 t = t.length then [t] else t.take (findL 10 t) :: linesN f (t.drop (findL 10 t + 1))
end Go.Proofs.YthfdjfgmgoafnaaDoor
namespace Go.Proofs.YthfdjfgmgoafnaaDoor
open Go.RowKit

theorem ref12_blank (c : UInt8) (w : World) :
    Calls Tryd.prog 34 #[.int .u8 c.toNat] w fun e w' => e = .returned (.bool (blankB c)) ∧ w' = w := by
  have hb : blankB c = (decide (c.toNat = 32) || decide (c.toNat = 9)) := by
    unfold blankB
    congr 1 <;> (apply Bool.eq_iff_iff.2; rw [beq_iff_eq, decide_eq_true_iff, ← UInt8.toNat_inj]; rfl)
  rw [hb]
  by_cases h1 : c.toNat = 32
  · have q1 : ((c.toNat : Int) == 32) = true := by rw [h1]; rfl
    rw [decide_eq_true h1]
    go_enter Tryd.func34, Tryd.ntmps34
    go_wp2_with fail
    go_returns
    exact ⟨rfl, rfl⟩
  · have q1 : ((c.toNat : Int) == 32) = false := by rw [beq_eq_false_iff_ne]; omega
    rw [decide_eq_false h1]
    by_cases h2 : c.toNat = 9
    · have q2 : ((c.toNat : Int) == 9) = true := by rw [h2]; rfl
      rw [decide_eq_true h2]
      go_enter Tryd.func34, Tryd.ntmps34
      go_wp2_with fail
      go_returns
      exact ⟨rfl, rfl⟩
    · have q2 : ((c.toNat : Int) == 9) = false := by rw [beq_eq_false_iff_ne]; omega
      rw [decide_eq_false h2]
      go_enter Tryd.func34, Tryd.ntmps34
      go_wp2_with fail
      go_returns
      exact ⟨rfl, rfl⟩

theorem ref12_small (c : UInt8) (w : World) :
    Calls Tryd.prog 51 #[.int .u8 c.toNat] w fun e w' => e = .returned (.bool (smallB c)) ∧ w' = w := by
  unfold smallB
  by_cases h1 : 97 ≤ c.toNat
  · have q1 : (97 : Int) ≤ c.toNat := by omega
    rw [decide_eq_true h1]
    by_cases h2 : c.toNat ≤ 122
    · have q2 : (c.toNat : Int) ≤ 122 := by omega
      rw [decide_eq_true h2]
      go_enter Tryd.func51, Tryd.ntmps51
      go_wp2_with fail
      go_returns
      exact ⟨rfl, rfl⟩
    · have q2 : ¬ (c.toNat : Int) ≤ 122 := by omega
      rw [decide_eq_false h2]
      go_enter Tryd.func51, Tryd.ntmps51
      go_wp2_with fail
      go_returns
      exact ⟨rfl, rfl⟩
  · have q1 : ¬ (97 : Int) ≤ c.toNat := by omega
    rw [decide_eq_false h1]
    go_enter Tryd.func51, Tryd.ntmps51
    go_wp2_with fail
    go_returns
    exact ⟨rfl, rfl⟩

theorem ref12_find (s : ByteArray) (c : UInt8) (w : World) (hs : s.size ≤ 1000000) :
    Calls Tryd.prog 31 #[.string s, .int .u8 c.toNat] w fun e w' => e = .returned (.int .i64 (findL c s.data.toList : Nat)) ∧ w' = w := by
  obtain ⟨M, hM⟩ : ∃ M, findL c s.data.toList = M := ⟨_, rfl⟩
  rw [hM]
  have HM := Lib.hid hM
  clear hM
  go_enter Tryd.func31, Tryd.ntmps31
  go_wp2_with fail
  go_loopw [5] (fun iv wr => ∃ i : Nat, i ≤ s.size ∧ iv = .int .i64 i ∧ Hid (M = i + findL c (s.data.toList.drop i)) ∧ wr = w) (fun iv _ => s.size - (intOf iv).toNat)
  case atStart => exact ⟨0, Nat.zero_le _, rfl, Lib.hid (by rw [← HM.out]; simp), rfl⟩
  case round =>
    obtain ⟨i, hi, rfl, HL, rfl⟩ := hrel
    by_cases hlt : i < s.size
    · have hiI : (i : Int) < s.size := by omega
      have hi0 : (0 : Int) ≤ i := by omega
      have hsI : (s.size : Int) ≤ 1000000 := by omega
      have hdrop : s.data.toList.drop i = s[i]'hlt :: s.data.toList.drop (i + 1) := List.drop_eq_getElem_cons (show i < s.data.toList.length from hlt)
      by_cases he : s[i]'hlt = c
      · have q1 : (((s[i]'hlt).toNat : Int) == (c.toNat : Int)) = true := by rw [he]; exact beq_self_eq_true _
        have hMi : M = i := by rw [HL.out, hdrop, findL, if_pos he]; rfl
        clear hdrop HL HM
        subst hMi
        go_wp2_with fail
        go_returns
        exact ⟨rfl, rfl⟩
      · have q1 : (((s[i]'hlt).toNat : Int) == (c.toNat : Int)) = false := by
          rw [beq_eq_false_iff_ne]
          intro h
          exact he (UInt8.toNat_inj.1 (by omega))
        have HN : Hid (M = (i + 1) + findL c (s.data.toList.drop (i + 1))) := Lib.hid (by rw [HL.out, hdrop, findL, if_neg he]; omega)
        clear hdrop HL
        go_wp2_with fail
        go_roundw
        case rel => exact ⟨i + 1, hlt, by simp, HN, trivial⟩
        case measure => simp [intOf]; omega
    · obtain rfl : i = s.size := by omega
      have he : M = s.size := by
        rw [HL.out, List.drop_eq_nil_of_le (show s.data.toList.length ≤ s.size from Nat.le_refl _)]
        rfl
      clear HL HM
      subst he
      go_wp2_with fail
      go_returns
      exact ⟨rfl, rfl⟩

end Go.Proofs.YthfdjfgmgoafnaaDoor
namespace Go.Proofs.YthfdjfgmgoafnaaDoor
open Go.RowKit

theorem drop_one (u : ByteArray) (h : 0 < u.size) : u.data.toList = u[0]'h :: (u.extract 1 u.size).data.toList := by
  rw [ByteArray.data_extract, Array.toList_extract]
  have e : u.data.toList.drop 0 = u[0]'h :: u.data.toList.drop 1 := List.drop_eq_getElem_cons (show 0 < u.data.toList.length from h)
  rw [List.drop_zero] at e
  have z : u.data.toList.length = u.size := rfl
  rw [List.extract_eq_take_drop, List.take_of_length_le (by rw [List.length_drop]; omega)]
  exact e
theorem drop_last (u : ByteArray) (h : u.size - 1 < u.size) : u.data.toList = (u.extract 0 (u.size - 1)).data.toList ++ [u[u.size - 1]'h] := by
  rw [ByteArray.data_extract, Array.toList_extract]
  have z : u.data.toList.length = u.size := rfl
  rw [List.extract_eq_take_drop, List.drop_zero, Nat.sub_zero]
  have k := List.take_succ_eq_append_getElem (l := u.data.toList) (i := u.size - 1) (by omega)
  rw [show u.size - 1 + 1 = u.size by omega, List.take_of_length_le (by omega)] at k
  exact k

set_option maxHeartbeats 1000000 in
theorem ref12_trim (s : ByteArray) (w : World) (hs : s.size ≤ 1000000) :
    Calls Tryd.prog 32 #[.string s] w fun e w' => (∃ t, e = .returned (.string t) ∧ Hid (t.data.toList = trimL s.data.toList) ∧ t.size ≤ s.size) ∧ w' = w := by
  have KB := Lib.hid (fun c => ref12_blank c w)
  go_enter Tryd.func32, Tryd.ntmps32
  go_wp2_with fail
  go_loopw [0] (fun v wr => ∃ u : ByteArray, v = .string u ∧ u.size ≤ s.size ∧ Hid (trimL s.data.toList = trimL u.data.toList) ∧ wr = w) (fun v _ => match v with | .string u => u.size | _ => 0)
  case atStart => exact ⟨s, rfl, Nat.le_refl _, Lib.hid rfl, rfl⟩
  case round =>
    obtain ⟨u, rfl, hu, HL, hw⟩ := hrel
    subst wr
    by_cases h0 : 0 < u.size
    · have h0I : (0 : Int) < u.size := by omega
      have huI : (u.size : Int) ≤ 1000000 := by omega
      have hd := drop_one u h0
      cases hb : blankB (u[0]'h0) with
      | true =>
        have KU := Lib.hid (KB.out (u[0]'h0))
        rw [hb] at KU
        have HN : Hid (trimL s.data.toList = trimL (u.extract 1 u.size).data.toList) := Lib.hid (by
          rw [HL.out, hd]
          unfold trimL
          rw [List.dropWhile_cons, if_pos hb])
        clear hd HL
        have hz : (u.extract 1 u.size).size = u.size - 1 := by rw [ByteArray.size_extract]; omega
        go_wp2_with fail
        refine KU.out.mono ?_
        rintro e w1 ⟨rfl, hw1⟩
        subst w1
        go_wp2_with fail
        go_roundw
        case rel => exact ⟨_, rfl, by omega, HN, trivial⟩
        case measure => simp; omega
      | false =>
        have KU := Lib.hid (KB.out (u[0]'h0))
        rw [hb] at KU
        have HT : Hid (trimL s.data.toList = trimR u.data.toList) := Lib.hid (by
          rw [HL.out, hd]
          unfold trimL
          rw [List.dropWhile_cons, if_neg (by rw [hb]; decide)])
        clear hd HL
        go_wp2_with fail
        refine KU.out.mono ?_
        rintro e w1 ⟨rfl, hw1⟩
        subst w1
        go_wp2_with fail
        go_loopw [0] (fun v wr => ∃ x : ByteArray, v = .string x ∧ x.size ≤ s.size ∧ Hid (trimL s.data.toList = trimR x.data.toList) ∧ wr = w) (fun v _ => match v with | .string u => u.size | _ => 0)
        case atStart => exact ⟨u, rfl, hu, HT, rfl⟩
        case round =>
          clear HT hu
          obtain ⟨x, rfl, hx, HX, hw⟩ := hrel
          subst wr
          by_cases h1 : 0 < x.size
          · have h1I : (0 : Int) < x.size := by omega
            have hxI : (x.size : Int) ≤ 1000000 := by omega
            have hm : x.size - 1 < x.size := by omega
            have hn1 : ((x.size : Int) - 1).toNat = x.size - 1 := by omega
            have hn0 : (0 : Int) ≤ (x.size : Int) - 1 := by omega
            have hn2 : (x.size : Int) - 1 < x.size := by omega
            have hn3 : (x.size : Int) - 1 ≤ x.size := by omega
            have hd := drop_last x hm
            cases hb2 : blankB (x[x.size - 1]'hm) with
            | true =>
              have KU := Lib.hid (KB.out (x[x.size - 1]'hm))
              rw [hb2] at KU
              have HN : Hid (trimL s.data.toList = trimR (x.extract 0 (x.size - 1)).data.toList) := Lib.hid (by
                rw [HX.out, hd, trimR_snoc _ _ hb2])
              clear hd HX
              have hz : (x.extract 0 (x.size - 1)).size = x.size - 1 := by rw [ByteArray.size_extract]; omega
              go_wp2_with fail
              refine KU.out.mono ?_
              rintro e w1 ⟨rfl, hw1⟩
              subst w1
              go_wp2_with fail
              go_roundw
              case rel => exact ⟨_, rfl, by omega, HN, trivial⟩
              case measure => simp; omega
            | false =>
              have KU := Lib.hid (KB.out (x[x.size - 1]'hm))
              rw [hb2] at KU
              have HN : Hid (x.data.toList = trimL s.data.toList) := Lib.hid (by
                have k := trimR_end (x.extract 0 (x.size - 1)).data.toList _ hb2
                rw [← hd] at k
                rw [HX.out, k])
              clear hd HX
              go_wp2_with fail
              refine KU.out.mono ?_
              rintro e w1 ⟨rfl, hw1⟩
              subst w1
              go_wp2_with fail
              go_returns
              exact ⟨⟨x, rfl, HN, hx⟩, rfl⟩
          · have HN : Hid (x.data.toList = trimL s.data.toList) := Lib.hid (by
              have z : x.data.toList.length = x.size := rfl
              have e := List.eq_nil_of_length_eq_zero (show x.data.toList.length = 0 by omega)
              rw [HX.out, e]
              rfl)
            clear HX
            have h1I : ¬ (0 : Int) < x.size := by omega
            go_wp2_with fail
            go_returns
            exact ⟨⟨x, rfl, HN, hx⟩, rfl⟩
    · have HT : Hid (trimL s.data.toList = trimR u.data.toList) := Lib.hid (by
        have z : u.data.toList.length = u.size := rfl
        rw [HL.out, List.eq_nil_of_length_eq_zero (show u.data.toList.length = 0 by omega)]
        rfl)
      clear HL
      have h0I : ¬ (0 : Int) < u.size := by omega
      go_wp2_with fail
      go_loopw [0] (fun v wr => ∃ x : ByteArray, v = .string x ∧ x.size ≤ s.size ∧ Hid (trimL s.data.toList = trimR x.data.toList) ∧ wr = w) (fun v _ => match v with | .string u => u.size | _ => 0)
      case atStart => exact ⟨u, rfl, hu, HT, rfl⟩
      case round =>
        clear HT hu
        obtain ⟨x, rfl, hx, HX, hw⟩ := hrel
        subst wr
        by_cases h1 : 0 < x.size
        · have h1I : (0 : Int) < x.size := by omega
          have hxI : (x.size : Int) ≤ 1000000 := by omega
          have hm : x.size - 1 < x.size := by omega
          have hn1 : ((x.size : Int) - 1).toNat = x.size - 1 := by omega
          have hn0 : (0 : Int) ≤ (x.size : Int) - 1 := by omega
          have hn2 : (x.size : Int) - 1 < x.size := by omega
          have hn3 : (x.size : Int) - 1 ≤ x.size := by omega
          have hd := drop_last x hm
          cases hb2 : blankB (x[x.size - 1]'hm) with
          | true =>
            have KU := Lib.hid (KB.out (x[x.size - 1]'hm))
            rw [hb2] at KU
            have HN : Hid (trimL s.data.toList = trimR (x.extract 0 (x.size - 1)).data.toList) := Lib.hid (by
              rw [HX.out, hd, trimR_snoc _ _ hb2])
            clear hd HX
            have hz : (x.extract 0 (x.size - 1)).size = x.size - 1 := by rw [ByteArray.size_extract]; omega
            go_wp2_with fail
            refine KU.out.mono ?_
            rintro e w1 ⟨rfl, hw1⟩
            subst w1
            go_wp2_with fail
            go_roundw
            case rel => exact ⟨_, rfl, by omega, HN, trivial⟩
            case measure => simp; omega
          | false =>
            have KU := Lib.hid (KB.out (x[x.size - 1]'hm))
            rw [hb2] at KU
            have HN : Hid (x.data.toList = trimL s.data.toList) := Lib.hid (by
              have k := trimR_end (x.extract 0 (x.size - 1)).data.toList _ hb2
              rw [← hd] at k
              rw [HX.out, k])
            clear hd HX
            go_wp2_with fail
            refine KU.out.mono ?_
            rintro e w1 ⟨rfl, hw1⟩
            subst w1
            go_wp2_with fail
            go_returns
            exact ⟨⟨x, rfl, HN, hx⟩, rfl⟩
        · have HN : Hid (x.data.toList = trimL s.data.toList) := Lib.hid (by
            have z : x.data.toList.length = x.size := rfl
            have e := List.eq_nil_of_length_eq_zero (show x.data.toList.length = 0 by omega)
            rw [HX.out, e]
            rfl)
          clear HX
          have h1I : ¬ (0 : Int) < x.size := by omega
          go_wp2_with fail
          go_returns
          exact ⟨⟨x, rfl, HN, hx⟩, rfl⟩
end Go.Proofs.YthfdjfgmgoafnaaDoor
namespace Go.Proofs.YthfdjfgmgoafnaaDoor
open Go.RowKit

theorem small_ne46 {c : UInt8} (h : smallB c = true) : ((c.toNat : Int) == 46) = false := by
  unfold smallB at h
  rw [Bool.and_eq_true, decide_eq_true_iff, decide_eq_true_iff] at h
  rw [beq_eq_false_iff_ne]
  omega
set_option maxHeartbeats 1000000 in
theorem ref12_isWord (s : ByteArray) (w : World) (h0 : 0 < s.size) (hs : s.size ≤ 1000000) (ha : ∀ i (h : i < s.size), smallB (s[i]'h) = true) :
    Calls Tryd.prog 35 #[.string s] w fun e w' => e = .returned (.bool true) ∧ w' = w := by
  have KB := Lib.hid (fun c => ref12_small c w)
  have HA := Lib.hid ha
  have q1 := small_ne46 (ha 0 h0)
  have h0I : (0 : Int) < s.size := by omega
  have hsI : (s.size : Int) ≤ 1000000 := by omega
  clear ha
  go_enter Tryd.func35, Tryd.ntmps35
  go_wp2_with fail
  go_loopw [3] (fun iv wr => ∃ i : Nat, i ≤ s.size ∧ iv = .int .i64 i ∧ wr = w) (fun iv _ => s.size - (intOf iv).toNat)
  case atStart => exact ⟨0, Nat.zero_le _, rfl, rfl⟩
  case round =>
    clear q1
    obtain ⟨i, hi, rfl, hw⟩ := hrel
    subst wr
    by_cases hlt : i < s.size
    · have hiI : (i : Int) < s.size := by omega
      have hi0 : (0 : Int) ≤ i := by omega
      have KU := Lib.hid (KB.out (s[i]'hlt))
      rw [HA.out i hlt] at KU
      go_wp2_with fail
      refine KU.out.mono ?_
      rintro e w1 ⟨rfl, hw1⟩
      subst w1
      go_wp2_with fail
      go_roundw
      case rel => exact ⟨i + 1, hlt, by simp, trivial⟩
      case measure => simp [intOf]; omega
    · obtain rfl : i = s.size := by omega
      go_wp2_with fail
      go_returns
      exact ⟨rfl, rfl⟩
end Go.Proofs.YthfdjfgmgoafnaaDoor
namespace Go.Proofs.YthfdjfgmgoafnaaDoor
open Go.RowKit

def sv (l : List UInt8) : Value := .string ⟨l.toArray⟩
theorem sv_of {t : ByteArray} {l : List UInt8} (h : t.data.toList = l) : Value.string t = sv l := by unfold sv; rw [← ba_eq h]
theorem ext_take (t : ByteArray) (k : Nat) : (t.extract 0 k).data.toList = t.data.toList.take k := by
  rw [Lib.extract_data]; simp
theorem ext_drop (t : ByteArray) (k : Nat) : (t.extract k t.size).data.toList = t.data.toList.drop k := by
  rw [Lib.extract_data]
  exact List.take_of_length_le (by rw [List.length_drop]; exact Nat.le_refl _)

set_option maxHeartbeats 1000000 in
theorem ref12_Lines (s : ByteArray) (w : World) (hs : s.size ≤ 1000000) :
    Calls Tryd.prog 18 #[.string s] w fun e w' => (∃ L c, e = .returned (.slice L (linesN (s.size + 1) s.data.toList).length c) ∧ w'.ownsRow w.heap.size 9 1 (.slice L (linesN (s.size + 1) s.data.toList).length c) (linesN (s.size + 1) s.data.toList).length ((linesN (s.size + 1) s.data.toList).map sv)) ∧ Below w.heap.size w w' := by
  obtain ⟨M, hM⟩ : ∃ M, linesN (s.size + 1) s.data.toList = M := ⟨_, rfl⟩
  rw [hM]
  have HM := Lib.hid hM
  have KF := Lib.hid ref12_find
  clear hM
  go_enter Tryd.func18, Tryd.ntmps18
  go_wp2_with fail
  go_loopw [0, 3] (fun tv v wr => ∃ (f : Nat) (t : ByteArray) (ls : List (List UInt8)), tv = .string t ∧ t.size < f ∧ t.size + ls.length ≤ s.size ∧ wr.ownsRow w.heap.size 9 1 v ls.length (ls.map sv) ∧ Hid (M = ls ++ linesN f t.data.toList) ∧ Below w.heap.size w wr) (fun tv _ _ => match tv with | .string u => u.size | _ => 0)
  case atStart => exact ⟨_, s, [], rfl, Nat.lt_succ_self _, Nat.le_refl _, World.ownsRow_nil _ _ _ _, HM.out.symm, Below.refl _ _⟩
  case round =>
    obtain ⟨f, t, ls, rfl, hf, hle, hown, HL, hb⟩ := hrel
    have hsz := hb.size
    obtain ⟨f, rfl⟩ : ∃ g, f = g + 1 := ⟨f - 1, by omega⟩
    obtain ⟨k, hk⟩ : ∃ k, findL 10 t.data.toList = k := ⟨_, rfl⟩
    have hkl : k ≤ t.size := by rw [← hk]; exact findL_le 10 t.data.toList
    have KU := Lib.hid (KF.out t 10 wr (by omega))
    rw [hk] at KU
    have HB := Lib.hid hb
    by_cases he : k = t.size
    · subst he
      have HN : Hid (M = ls ++ [t.data.toList]) := Lib.hid (by
        rw [HL.out, linesN, if_pos (by rw [hk]; rfl)])
      clear HL hb hk
      go_wp2_with fail
      refine KU.out.mono ?_
      rintro e w1 ⟨rfl, hw1⟩
      subst w1
      go_wp2_with (at_builtin; refine wpList_append_new rfl _ _ 53 rfl w.heap.size (.string ⟨#[]⟩) 1 16 Tryd.underlying53 (by kernel_rfl) rfl (by decide) _ ls.length _ rfl hown 1 rfl rfl (by simp [Value.oneCell']) (by omega) (by omega) hsz ?_; intro v1 w3 hown1 hb3 hk)
      have HO : Hid (w3.ownsRow w.heap.size 9 1 v1 M.length (M.map sv)) := Lib.hid (by
        rw [HN.out, List.length_append, List.map_append]
        have k := hown1
        simp only [sv_of (rfl : t.data.toList = _)] at k
        exact k)
      have HB3 := Lib.hid (HB.out.trans hb3)
      obtain ⟨L, c, rfl, -, -, hS⟩ := Sl.of_own HO.out
      clear hown hown1 hb3 hk hS
      go_wp2_with fail
      go_returns
      exact ⟨⟨L, c, rfl, HO.out⟩, HB3.out⟩
    · have hlt : k < t.size := by omega
      have q1 : ((k : Int) == (t.size : Int)) = false := by rw [beq_eq_false_iff_ne]; omega
      have hkI : (k : Int) < t.size := by omega
      have hk0 : (0 : Int) ≤ k := by omega
      have hk1 : (k : Int) ≤ t.size := by omega
      have hk2 : (k : Int) + 1 ≤ t.size := by omega
      have hsI : (t.size : Int) ≤ 1000000 := by omega
      have HN : Hid (M = (ls ++ [t.data.toList.take k]) ++ linesN f (t.extract (k + 1) t.size).data.toList) := Lib.hid (by
        rw [HL.out, linesN, if_neg (by rw [hk]; exact he), hk, ext_drop, List.append_assoc]
        rfl)
      have HE := Lib.hid (ext_take t k)
      have hz : (t.extract (k + 1) t.size).size = t.size - (k + 1) := by rw [ByteArray.size_extract]; omega
      have HZ := Lib.hid hz
      clear HL hb hk he hz
      go_wp2_with fail
      refine KU.out.mono ?_
      rintro e w1 ⟨rfl, hw1⟩
      subst w1
      go_wp2_with (at_builtin; refine wpList_append_new rfl _ _ 53 rfl w.heap.size (.string ⟨#[]⟩) 1 16 Tryd.underlying53 (by kernel_rfl) rfl (by decide) _ ls.length _ rfl hown 1 rfl rfl (by simp [Value.oneCell']) (by omega) (by omega) hsz ?_; intro v1 w3 hown1 hb3 hk)
      have HO : Hid (w3.ownsRow w.heap.size 9 1 v1 (ls ++ [t.data.toList.take k]).length ((ls ++ [t.data.toList.take k]).map sv)) := Lib.hid (by
        rw [List.length_append, List.map_append]
        have k := hown1
        simp only [sv_of HE.out] at k
        exact k)
      have HB3 := Lib.hid (HB.out.trans hb3)
      clear hown hown1 hb3 hk q1
      go_wp2_with fail
      go_roundw
      case rel => exact ⟨f, _, _, rfl, by rw [HZ.out]; omega, by rw [HZ.out, List.length_append]; simp; omega, HO.out, HN, HB3.out⟩
      case measure =>
        show (t.extract (k + 1) t.size).size < t.size
        rw [HZ.out]
        omega
end Go.Proofs.YthfdjfgmgoafnaaDoor
