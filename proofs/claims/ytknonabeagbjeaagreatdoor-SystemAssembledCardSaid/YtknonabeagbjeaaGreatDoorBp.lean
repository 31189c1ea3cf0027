/- Layer 12 without a program: what the assembler makes of a text. -/
import Derived.Lib.Strings
import Derived.Lib.IndexMore
import Derived.Lib.IndexAny
import Derived.Lib.SlTrimSet
import Derived.Lib.Split
import Derived.Test.YtknonabeagbjeaaGreatDoorWrP
import Derived.Test.YtknonabeagbjeaaGreatDoorIn
import Derived.Test.YtknonabeagbjeaaGreatDoorHx
namespace Go.Proofs.YtknonabeagbjeaaGreatDoor

def blankB (c : UInt8) : Bool := c == 32 || c == 9
def smallB (c : UInt8) : Bool := decide (97 ≤ c.toNat) && decide (c.toNat ≤ 122)
def bigB (c : UInt8) : Bool := decide (65 ≤ c.toNat) && decide (c.toNat ≤ 90)
def letterB (c : UInt8) : Bool := smallB c || bigB c
def nameB (c : UInt8) : Bool := letterB c || (isD c || c == 95)
def findL (c : UInt8) : List UInt8 → Nat
  | [] => 0
  | x :: r => if x = c then 0 else findL c r + 1
def blankAt : List UInt8 → Nat
  | [] => 0
  | x :: r => if blankB x then 0 else blankAt r + 1
def trimR (l : List UInt8) : List UInt8 := (l.reverse.dropWhile blankB).reverse
def trimP (l : List UInt8) : List UInt8 := (trimR l).dropWhile blankB
/-- A text's parts between bytes c. -/
def splitN (c : UInt8) : Nat → List UInt8 → List (List UInt8)
  | 0, t => [t]
  | f + 1, t => if findL c t = t.length then [t] else t.take (findL c t) :: splitN c f (t.drop (findL c t + 1))
def splitP (c : UInt8) (l : List UInt8) : List (List UInt8) := splitN c l.length l

def labelB : List UInt8 → Bool
  | [] => false
  | c :: r => letterB c && (r.all nameB && decide (r.length < 20))
def undot : List UInt8 → List UInt8
  | [] => []
  | c :: r => if c = 46 then r else c :: r
def wordB (l : List UInt8) : Bool := (undot l).all smallB && !(undot l).isEmpty

/-- A line's label, word and operands; nothing, if it is none. -/
def lineX (l : List UInt8) : Option (List UInt8 × List UInt8 × List (List UInt8)) :=
  let s := trimP (l.take (findL 35 l))
  let k := findL 58 s
  if k < s.length ∧ labelB (s.take k) = false then none else
  let lb := if k < s.length then s.take k else []
  let u := if k < s.length then trimP (s.drop (k + 1)) else s
  if u = [] then some (lb, [], []) else
  let o := u.take (blankAt u)
  let r := if blankAt u < u.length then trimP (u.drop (blankAt u)) else []
  if wordB o = false then none else
  if r = [] then some (lb, o, []) else
  let ags := (splitP 44 r).map trimP
  if ags.all (fun a => !a.isEmpty) = false then none else some (lb, o, ags)

/-- An operand: its kind (1: a register; 2: a number; 3: a label; 0: none of these), its value, is it too great. -/
def hexX (d : List UInt8) : Int × Nat × Bool :=
  if d.length < 1 ∨ 8 < d.length then (0, 0, false) else
  let s := List.replicate (8 - d.length) 48 ++ d
  if parseE s = 0 then (2, (parseI s).1.foldl (fun n b => n * 256 + b.toNat) 0, false) else (0, 0, false)
def charX (l : List UInt8) : Option UInt8 := match l with
  | [a, b, c] => if a = 39 ∧ c = 39 ∧ 33 ≤ b.toNat ∧ b.toNat ≤ 126 ∧ b ≠ 39 ∧ b ≠ 35 ∧ b ≠ 44 ∧ b ≠ 58 then some b else none
  | _ => none
def opndX (l : List UInt8) : Int × Nat × Bool :=
  if l.head? = some 114 ∧ (parseW (l.drop 1)).2 = 0 ∧ (parseW (l.drop 1)).1.toNat ≤ 15 then (1, (parseW (l.drop 1)).1.toNat, false) else
  if (parseW l).2 = 0 then (2, (parseW l).1.toNat, false) else
  if (parseW l).2 = 2 then (2, 0, true) else
  if l.take 2 = [48, 120] then hexX (l.drop 2) else
  match charX l with
  | some b => (2, b.toNat, false)
  | none => if labelB l = true then (3, 0, false) else (0, 0, false)

/-- What was read so far: the code, the words of memory, was there a .data, the labels' places, where labels are used. -/
structure Asm where
  code : List UInt32
  dat : Nat
  has : Bool
  pl : List (List UInt8 × Nat)
  us : List (Int × Nat × List UInt8)
def lookP (l : List UInt8) (pl : List (List UInt8 × Nat)) : Option Nat := (pl.find? fun p => decide (p.1 = l)).map Prod.snd
def addX (s : Asm) (w : UInt32) : Option Asm := if 16384 ≤ s.code.length then none else some { s with code := s.code ++ [w] }
def encX (s : Asm) (op a b c : Int) : Option Asm := if rightI op a b c = true then addX s (UInt32.ofNat (encI op a b c).toNat) else none
def withX (s : Asm) (n op a b : Int) (g : List UInt8) : Option Asm :=
  let o := opndX g
  if o.1 = 3 then encX { s with us := s.us ++ [(n, s.code.length, g)] } op a b 0 else
  if o.1 ≠ 2 then none else
  if o.2.2 = true ∨ 65535 < o.2.1 then none else encX s op a b o.2.1
def regX (g : List UInt8) : Option Nat := let o := opndX g; if o.1 = 1 then some o.2.1 else none
def insX (s : Asm) (n op : Int) (gs : List (List UInt8)) : Option Asm :=
  match shA op, shB op, decide (shC op = 1), decide (shC op = 2), gs with
  | true, false, true, _, [x, y] => match regX x with
    | some a => withX s n op a 0 y
    | none => none
  | true, true, false, false, [x, y] => match regX x, regX y with
    | some a, some b => encX s op a b 0
    | _, _ => none
  | true, true, false, true, [x, y, z] => match regX x, regX y, regX z with
    | some a, some b, some c => encX s op a b c
    | _, _, _ => none
  | true, true, true, _, [x, y, z] => match regX x, regX y with
    | some a, some b => withX s n op a b z
    | _, _ => none
  | false, false, true, _, [x] => withX s n op 0 0 x
  | true, false, false, _, [x] => match regX x with
    | some a => encX s op a 0 0
    | none => none
  | false, false, false, _, [] => encX s op 0 0 0
  | _, _, _, _, _ => none
def wordL : List UInt8 := [46, 119, 111, 114, 100]
def dataL : List UInt8 := [46, 100, 97, 116, 97]
def dirX (s : Asm) (o : List UInt8) (gs : List (List UInt8)) : Option Asm :=
  match gs with
  | [g] => if o = dataL ∧ s.has = true then none else
    let k := opndX g
    if k.1 ≠ 2 then none else
    if o = wordL then (if k.2.2 = true then none else addX s (UInt32.ofNat k.2.1)) else
    if k.2.2 = true ∨ 32768 < k.2.1 then none else some { s with dat := k.2.1, has := true }
  | _ => none
def lineS (s : Asm) (n : Int) (l : List UInt8) : Option Asm :=
  match lineX l with
  | none => none
  | some (lb, o, gs) =>
    if lb ≠ [] ∧ (lookP lb s.pl).isSome = true then none else
    let s1 := if lb = [] then s else { s with pl := (lb, s.code.length) :: s.pl }
    if o = [] then some s1 else
    if o = wordL ∨ o = dataL then dirX s1 o gs else
    if opI o = 0 then none else insX s1 n (opI o) gs
def linesS (s : Asm) (n : Int) : List (List UInt8) → Option Asm
  | [] => some s
  | l :: r => match lineS s n l with
    | some s1 => linesS s1 (n + 1) r
    | none => none
/-- The labels' places put into the code. -/
def useS (pl : List (List UInt8 × Nat)) : List UInt32 → List (Int × Nat × List UInt8) → Option (List UInt32)
  | code, [] => some code
  | code, u :: r => match lookP u.2.2 pl with
    | none => none
    | some p => if 65535 < p then none else useS pl (code.set u.2.1 (code.getD u.2.1 0 ||| UInt32.ofNat p)) r
def asm0 : Asm := ⟨[], 0, false, [], []⟩
def readX (t : List UInt8) : Option (List UInt32 × Nat) :=
  if 20000 < t.length then none else
  match linesS asm0 1 (splitP 10 t) with
  | none => none
  | some s => match useS s.pl s.code s.us with
    | none => none
    | some c => some (c, s.dat)
end Go.Proofs.YtknonabeagbjeaaGreatDoor
