/- Layer 50 without a program: the seed's source, and what the assembler makes of it; each line of its text has a note. -/
import Derived.Test.YthfdjfgmgoafnaaDoorAk
import Derived.Test.YthfdjfgmgoafnaaDoorInP
import Derived.Test.YthfdjfgmgoafnaaDoorSdV
namespace Go.Proofs.YthfdjfgmgoafnaaDoor

def decC (n : Nat) : List UInt8 := if n < 10 then [UInt8.ofNat (48 + n)] else if n < 100 then [UInt8.ofNat (48 + n / 10), UInt8.ofNat (48 + n % 10)] else [UInt8.ofNat (48 + n / 10 / 10), UInt8.ofNat (48 + n / 10 % 10), UInt8.ofNat (48 + n % 10)]
theorem decC_eq (n : Nat) (h : n < 1000) : Lib.decDigits n = decC n := by
  unfold decC
  by_cases h1 : n < 10
  · rw [if_pos h1, Lib.decDigits_one h1]
  · rw [if_neg h1, dec_rec' (by omega)]
    by_cases h2 : n < 100
    · rw [if_pos h2, Lib.decDigits_one (by omega)]
      rfl
    · rw [if_neg h2, dec_rec' (by omega), Lib.decDigits_one (by omega)]
      rfl
def tailC : List UInt8 → List (ByteArray × Nat) → List UInt8
  | _, [] => []
  | s, (p, n) :: r => s ++ (p.data.toList ++ (decC n ++ tailC [44, 32] r))
theorem tail_C : ∀ (l : List (ByteArray × Nat)) (s : List UInt8), (l.all fun x => decide (x.2 < 1000)) = true → tailL s l = tailC s l
  | [], _, _ => rfl
  | (p, n) :: r, s, h => by
    rw [List.all_cons, Bool.and_eq_true, decide_eq_true_iff] at h
    unfold tailL tailC
    rw [tail_C r _ h.2, decC_eq n h.1]
/-- The text of the seed's instruction j, and its line with the note. -/
def insC (j : Nat) : List UInt8 :=
  let p := seedP.getD j (0, 0, 0, 0)
  nameI p.1 ++ tailC [32] (fieldsB (shA p.1) (shB p.1) (shC p.1) p.2.1 p.2.2.1 p.2.2.2)
def lnC (j : Nat) : List UInt8 := insC j ++ [32, 35, 32] ++ (noteL.getD j ⟨#[]⟩).data.toList
def okP (j : Nat) : Bool :=
  let p := seedP.getD j (0, 0, 0, 0)
  rightI p.1 p.2.1 p.2.2.1 p.2.2.2 && (fieldsB (shA p.1) (shB p.1) (shC p.1) p.2.1 p.2.2.1 p.2.2.2).all fun x => decide (x.2 < 1000)
theorem ok_p : ∀ j, j < 34 → okP j = true := by decide +kernel
theorem ins_text {j op a b c : Nat} (hj : j < 34) (h : seedP[j]? = some (op, a, b, c)) : (textB op a b c).data.toList = insC j := by
  have k := ok_p j hj
  have e : seedP.getD j (0, 0, 0, 0) = (op, a, b, c) := by rw [List.getD_eq_getElem?_getD, h]; rfl
  unfold okP at k
  unfold insC
  rw [e] at k ⊢
  simp only [Bool.and_eq_true] at k
  unfold textB
  rw [if_pos k.1, rest_tail]
  simp only [Int.toNat_natCast]
  show nameI _ ++ tailL [32] _ = nameI _ ++ tailC [32] _
  rw [tail_C _ _ k.2]
def okL (j : Nat) : Bool := match lineA (lnC j) with
  | none => false
  | some (o, ags) => decide (o ≠ []) && (decide (wordA o ags = some (seedW.getD j 0)) && ((lnC j).all fun x => decide (x ≠ 10)) && decide ((lnC j).length ≤ 100))
theorem ok_l : ∀ j, j < 34 → okL j = true := by decide +kernel
theorem okL_some {j : Nat} (h : okL j = true) : ∃ o ags, lineA (lnC j) = some (o, ags) ∧ o ≠ [] ∧ wordA o ags = some (seedW.getD j 0) ∧ ((lnC j).all fun x => decide (x ≠ 10)) = true ∧ (lnC j).length ≤ 100 := by
  unfold okL at h
  split at h
  · cases h
  · rename_i o ags e
    simp only [Bool.and_eq_true, decide_eq_true_iff] at h
    exact ⟨o, ags, e, h.1, h.2.1.1, h.2.1.2, h.2.2⟩
/-- The source's first lines. -/
def srcL : Nat → List UInt8
  | 0 => []
  | j + 1 => srcL j ++ (lnC j ++ [10])
theorem src_len : ∀ j, j ≤ 34 → (srcL j).length ≤ 101 * j
  | 0, _ => Nat.le_refl _
  | j + 1, h => by
    obtain ⟨_, _, _, _, _, _, k⟩ := okL_some (ok_l j (by omega))
    have := src_len j (by omega)
    unfold srcL
    rw [List.length_append, List.length_append]
    simp
    omega
theorem findL_plain (c : UInt8) : ∀ (l r : List UInt8), (l.all fun x => decide (x ≠ c)) = true → findL c (l ++ c :: r) = l.length
  | [], r, _ => by simp [findL]
  | x :: l, r, h => by
    rw [List.all_cons, Bool.and_eq_true, decide_eq_true_iff] at h
    have := findL_plain c l r h.2
    show findL c (x :: (l ++ c :: r)) = _
    unfold findL
    rw [if_neg h.1, this]
    rfl
theorem linesN_cons (f : Nat) (l r : List UInt8) (h : (l.all fun x => decide (x ≠ 10)) = true) : linesN (f + 1) (l ++ 10 :: r) = l :: linesN f r := by
  rw [linesN, findL_plain 10 l r h, if_neg (by simp), List.take_left]
  congr 2
  rw [List.drop_append, List.drop_of_length_le (by omega), show l.length + 1 - l.length = 1 by omega]
  rfl
theorem linesN_all : ∀ (ls : List (List UInt8)) (f : Nat), (∀ l ∈ ls, (l.all fun x => decide (x ≠ 10)) = true) → ls.length < f → linesN f (ls.flatMap fun l => l ++ [10]) = ls ++ [[]]
  | [], f, _, hf => by
    obtain ⟨g, rfl⟩ : ∃ g, f = g + 1 := ⟨f - 1, by simp at hf; omega⟩
    rfl
  | l :: ls, f, h, hf => by
    obtain ⟨g, rfl⟩ : ∃ g, f = g + 1 := ⟨f - 1, by simp at hf; omega⟩
    rw [List.flatMap_cons, List.append_assoc, List.singleton_append, linesN_cons g l _ (h l (List.mem_cons_self ..)), linesN_all ls g (fun x hx => h x (List.mem_cons_of_mem _ hx)) (by simp at hf; omega)]
    rfl
theorem src_flat : ∀ j, srcL j = ((List.range j).map lnC).flatMap fun l => l ++ [10]
  | 0 => rfl
  | j + 1 => by
    rw [List.range_succ, List.map_append, List.flatMap_append, ← src_flat j]
    show srcL j ++ (lnC j ++ [10]) = _
    simp
theorem codeA12_map : ∀ (js : List Nat), (∀ j ∈ js, okL j = true) → codeA12 (js.map lnC ++ [[]]) = some (js.map fun j => seedW.getD j 0)
  | [], _ => rfl
  | j :: js, h => by
    obtain ⟨o, ags, e, h1, h2, -, -⟩ := okL_some (h j (List.mem_cons_self ..))
    have ih := codeA12_map js (fun x hx => h x (List.mem_cons_of_mem _ hx))
    show codeA12 (lnC j :: (js.map lnC ++ [[]])) = _
    unfold codeA12
    rw [e]
    simp only
    rw [if_neg h1, h2, ih]
    rfl
theorem src_code (n : Nat) (h : n = (srcL 34).length) : codeA12 (linesN (n + 1) (srcL 34)) = some seedW := by
  have h34 : 34 ≤ n := by
    rw [h]
    have key : ∀ j, j ≤ (srcL j).length := by
      intro j
      induction j with
      | zero => exact Nat.le_refl _
      | succ j ih => unfold srcL; rw [List.length_append, List.length_append]; simp; omega
    exact key 34
  rw [src_flat, linesN_all _ _ (fun l hl => by
    obtain ⟨j, hj, rfl⟩ := List.mem_map.1 hl
    obtain ⟨_, _, _, _, _, k, _⟩ := okL_some (ok_l j (List.mem_range.1 hj))
    exact k) (by simp; omega), codeA12_map _ (fun j hj => ok_l j (List.mem_range.1 hj))]
  decide +kernel

/-- Is each line noted: so far; at a line's beginning; its note. -/
def nstep (s : Bool × Bool × Bool) (c : UInt8) : Bool × Bool × Bool :=
  if c = 35 then (s.1, false, true) else if c = 10 then (s.1 && s.2.2, true, s.2.2) else (s.1, false, if s.2.1 then false else s.2.2)
theorem nst_hex : ∀ (l : List UInt8) (f n : Bool), (l.all fun x => decide (x ≠ 10)) = true → ∃ f' n', l.foldl nstep (true, f, n) = (true, f', n')
  | [], f, n, _ => ⟨f, n, rfl⟩
  | x :: r, f, n, h => by
    rw [List.all_cons, Bool.and_eq_true, decide_eq_true_iff] at h
    rw [List.foldl_cons]
    unfold nstep
    split
    · exact nst_hex r _ _ h.2
    · rw [if_neg h.1]
      exact nst_hex r _ _ h.2
theorem nst_note : ∀ (l : List UInt8), (l.all fun x => decide (x ≠ 10)) = true → l.foldl nstep (true, false, true) = (true, false, true)
  | [], _ => rfl
  | x :: r, h => by
    rw [List.all_cons, Bool.and_eq_true, decide_eq_true_iff] at h
    have e : nstep (true, false, true) x = (true, false, true) := by
      unfold nstep
      rw [if_neg h.1]
      split <;> rfl
    rw [List.foldl_cons, e, nst_note r h.2]
theorem hexB_plain (l : List UInt8) : ((hexB l).all fun x => decide (x ≠ 10)) = true := by
  rw [List.all_eq_true]
  intro x hx
  rw [decide_eq_true_iff]
  unfold hexB at hx
  obtain ⟨b, -, hx⟩ := List.mem_flatMap.1 hx
  have hb := b.toNat_lt
  have key : ∀ k, k < 16 → smallD k ≠ 10 := by decide
  simp only [List.mem_cons, List.not_mem_nil, or_false] at hx
  rcases hx with rfl | rfl | rfl
  · exact key _ (by omega)
  · exact key _ (by omega)
  · decide
theorem nst_line (l n : List UInt8) (f b : Bool) (h : (n.all fun x => decide (x ≠ 10)) = true) : (lineL l n).foldl nstep (true, f, b) = (true, true, true) := by
  unfold lineL
  rw [List.foldl_append, List.foldl_append, List.foldl_append]
  obtain ⟨f', n', e⟩ := nst_hex (hexB l) f b (hexB_plain l)
  rw [e]
  have k : [(35 : UInt8), 32].foldl nstep (true, f', n') = (true, false, true) := rfl
  rw [k, nst_note n h]
  rfl
theorem note_ne (j : Nat) (h : j < 34) : ((noteL.getD j ⟨#[]⟩).data.toList.all fun x => decide (x ≠ 10)) = true := by
  have k := note_plain j h
  rw [List.all_eq_true] at k ⊢
  intro x hx
  have := k x hx
  rw [decide_eq_true_iff] at this ⊢
  intro e
  exact this (by rw [e]; rfl)
theorem nst_body : ∀ j, j ≤ 34 → (bodyL j).foldl nstep (true, true, true) = (true, true, true)
  | 0, _ => by
    unfold bodyL
    rw [List.foldl_append, List.foldl_append, nst_line _ _ _ _ (by decide), nst_line _ _ _ _ (by decide), nst_line _ _ _ _ (by decide)]
  | j + 1, h => by
    rw [show bodyL (j + 1) = bodyL j ++ lineL (leBytes [seedW.getD j 0]) (noteL.getD j ⟨#[]⟩).data.toList from rfl, List.foldl_append, nst_body j (by omega), nst_line _ _ _ _ (note_ne j h)]
/-- What holds of every part from the front. -/
theorem nst_ok : ∀ (l : List UInt8) (s : Bool × Bool × Bool), s.1 = false → (l.foldl nstep s).1 = false
  | [], _, h => h
  | x :: r, s, h => by
    rw [List.foldl_cons]
    refine nst_ok r _ ?_
    unfold nstep
    split
    · exact h
    · split
      · show (s.1 && s.2.2) = false
        rw [h]; rfl
      · exact h
theorem nst_take {l : List UInt8} {s t : Bool × Bool × Bool} (h : l.foldl nstep s = t) (ht : t.1 = true) (i : Nat) : ((l.take i).foldl nstep s).1 = true := by
  cases hh : ((l.take i).foldl nstep s).1 with
  | true => rfl
  | false =>
    have k := nst_ok (l.drop i) _ hh
    rw [← List.foldl_append, List.take_append_drop, h, ht] at k
    exact absurd k (by decide)
theorem nst_first (l : List UInt8) (i : Nat) (hi : i < l.length) : ((l.take (i + 1)).foldl nstep (true, true, true)).2.1 = decide (l[i] = 10) := by
  rw [List.take_succ_eq_append_getElem hi, List.foldl_append]
  generalize (l.take i).foldl nstep (true, true, true) = s
  show (nstep s l[i]).2.1 = _
  unfold nstep
  split
  · rename_i h; rw [h]; rfl
  · split
    · rename_i h; rw [h]; rfl
    · rename_i h; rw [decide_eq_false h]
end Go.Proofs.YthfdjfgmgoafnaaDoor
