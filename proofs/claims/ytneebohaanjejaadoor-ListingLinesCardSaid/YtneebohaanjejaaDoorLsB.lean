/- Layer 11 without a program: what a listing tells. -/
import Derived.Test.YtneebohaanjejaaDoorLs
namespace Go.Proofs.YtneebohaanjejaaDoor
open Go.RowKit

theorem dec_head (n : Nat) : ∃ x r, Lib.decDigits n = x :: r ∧ isDig x = true := by
  cases h : Lib.decDigits n with
  | nil =>
    have h2 : (Lib.decDigits n).length = 0 := by rw [h]; rfl
    by_cases hn : n < 10
    · rw [Lib.decDigits_one hn] at h2; simp at h2
    · rw [dec_rec' (by omega)] at h2; simp at h2
  | cons x r => exact ⟨x, r, rfl, dec_digs n x (by rw [h]; exact List.mem_cons_self)⟩
theorem pre_nodig {p : ByteArray} (h : okPre p) : ∀ x ∈ p.data.toList, (fun y => !isDig y) x = true := by
  rcases h with rfl | rfl | rfl <;> (rw [← List.all_eq_true]; decide)
theorem dec_app_head (n : Nat) (r : List UInt8) : ∀ x ∈ (Lib.decDigits n ++ r).head?, (fun y => !isDig y) x = false := by
  obtain ⟨x, q, e, hx⟩ := dec_head n
  rw [e]
  intro y hy
  obtain rfl : x = y := by simpa using hy
  simp [hx]
theorem tail_inj2 : ∀ (l l' : List (ByteArray × Nat)) (s : List UInt8), s ≠ [] → (∀ p ∈ l, okPre p.1) → (∀ p ∈ l', okPre p.1) → tailL s l = tailL s l' → l.map Prod.snd = l'.map Prod.snd
  | [], [], _, _, _, _, _ => rfl
  | [], (q, m) :: l', s, hs, _, _, e => by
    unfold tailL at e
    have e2 := congrArg List.length e
    simp only [List.length_append, List.length_nil] at e2
    exact absurd (List.length_eq_zero_iff.1 (by omega)) hs
  | (p, n) :: l, [], s, hs, _, _, e => by
    unfold tailL at e
    have e2 := congrArg List.length e
    simp only [List.length_append, List.length_nil] at e2
    exact absurd (List.length_eq_zero_iff.1 (by omega)) hs
  | (p, n) :: l, (q, m) :: l', s, hs, h, h', e => by
    unfold tailL at e
    have e1 := List.append_cancel_left e
    obtain ⟨_, e2⟩ := part_at (fun y => !isDig y) _ _ _ _ (pre_nodig (h (p, n) List.mem_cons_self)) (pre_nodig (h' (q, m) List.mem_cons_self)) (dec_app_head n _) (dec_app_head m _) e1
    obtain ⟨e3, e4⟩ := part_at isDig _ _ _ _ (dec_digs n) (dec_digs m) (tail_head l) (tail_head l') e2
    have ih := tail_inj2 l l' [44, 32] (by simp) (fun z hz => h z (List.mem_cons_of_mem _ hz)) (fun z hz => h' z (List.mem_cons_of_mem _ hz)) e4
    simp only [List.map_cons]
    rw [dec_inj e3, ih]
theorem fldJ_snd (x : UInt32) (n : Nat) : (fldJ x n).map Prod.snd = (fieldsB (shA (opD x)) (shB (opD x)) (shC (opD x)) (aD x).toNat (bD x).toNat (cD x).toNat).map Prod.snd := by
  unfold fldJ fieldsB
  cases shA (opD x) <;> cases shB (opD x) <;> (by_cases h1 : shC (opD x) = 1 <;> by_cases h2 : shC (opD x) = 2 <;> simp [h1, h2])
theorem sp_head (l : List (ByteArray × Nat)) : ∀ x ∈ (tailL [32] l).head?, isLet x = false := by
  intro x hx
  cases l with
  | nil => exact absurd hx (by unfold tailL; simp)
  | cons y l =>
    obtain ⟨p, n⟩ := y
    have h9 : (tailL [32] ((p, n) :: l)).head? = some 32 := rfl
    rw [h9] at hx
    obtain rfl := Option.mem_some.1 hx
    decide
theorem word_eq {x y : UInt32} (h1 : opD x = opD y) (h2 : aD x = aD y) (h3 : bD x = bD y) (h4 : cD x = cD y) : x = y := by
  have hx := x.toNat_lt
  have hy := y.toNat_lt
  apply UInt32.toNat_inj.1
  unfold opD at h1
  unfold aD at h2
  unfold bD at h3
  unfold cD at h4
  omega
theorem name_first : ∀ k, k < 28 → 1 ≤ k → (nameI ((k : Nat) : Int)).head?.map isLet = some true := by decide
theorem item_inj {x y : UInt32} {n : Nat} (e : itemL x n = itemL y n) : x = y := by
  unfold itemL at e
  cases hx : decB x with
  | true =>
    obtain ⟨k, k1, k2, ek⟩ := dec_op hx
    cases hy : decB y with
    | true =>
      obtain ⟨j, j1, j2, ej⟩ := dec_op hy
      rw [if_pos hx, if_pos hy] at e
      rw [ek, ej] at e
      obtain ⟨e2, e3⟩ := part_at isLet _ _ _ _ (List.all_eq_true.1 (name_let k k1)) (List.all_eq_true.1 (name_let j j1)) (sp_head _) (sp_head _) e
      obtain rfl := name_apart k k1 k2 j j1 j2 e2
      have e4 := tail_inj2 _ _ [32] (by simp) (fldJ_pre x n) (fldJ_pre y n) e3
      rw [fldJ_snd, fldJ_snd, ek, ej] at e4
      obtain ⟨f1, f2, f3⟩ := fields_snd _ _ _ _ _ _ _ _ _ e4 (shC_cases _)
      have hx2 := hx
      have hy2 := hy
      unfold decB at hx hy
      obtain ⟨_, ⟨a1, a2⟩, ⟨b1, b2⟩, ⟨c1, c2⟩⟩ := right_bounds hx
      obtain ⟨_, ⟨q1, q2⟩, ⟨r1, r2⟩, ⟨s1, s2⟩⟩ := right_bounds hy
      obtain ⟨za, zb, zc⟩ := right_parts hx
      obtain ⟨ya, yb, yc⟩ := right_parts hy
      rw [ek] at za zb zc
      rw [ej] at ya yb yc
      refine word_eq (ek.trans ej.symm) ?_ ?_ ?_
      · cases hA : shA (k : Int) with
        | false => rw [za hA, ya hA]
        | true => have := f1 hA; omega
      · cases hB : shB (k : Int) with
        | false => rw [zb hB, yb hB]
        | true => have := f2 hB; omega
      · by_cases hC : shC (k : Int) = 0
        · rw [zc hC, yc hC]
        · have := f3 hC; omega
    | false =>
      rw [if_pos hx, if_neg (by rw [hy]; decide), ek] at e
      have h := name_first k k1 k2
      cases hn : nameI (k : Int) with
      | nil => rw [hn] at h; exact absurd h (by decide)
      | cons z r =>
        rw [hn] at h e
        have h2 : isLet z = true := by simpa using h
        have e5 := (List.cons.inj e).1
        rw [e5] at h2
        exact absurd h2 (by decide)
  | false =>
    cases hy : decB y with
    | true =>
      obtain ⟨k, k1, k2, ek⟩ := dec_op hy
      rw [if_pos hy, if_neg (by rw [hx]; decide), ek] at e
      have h := name_first k k1 k2
      cases hn : nameI (k : Int) with
      | nil => rw [hn] at h; exact absurd h (by decide)
      | cons z r =>
        rw [hn] at h e
        have h2 : isLet z = true := by simpa using h
        have e5 := (List.cons.inj e).1
        rw [← e5] at h2
        exact absurd h2 (by decide)
    | false =>
      rw [if_neg (by rw [hx]; decide), if_neg (by rw [hy]; decide)] at e
      exact UInt32.toNat_inj.1 (dec_inj (List.append_cancel_left e))

/-- The words' lines alone. -/
def isItem (l : List UInt8) : Bool := decide (l.head? = some 32)
theorem rows_items (code : List UInt32) (l : List Nat) : (l.flatMap (rowP code)).filter isItem = l.map fun i => [32, 32] ++ itemL (code.getD i 0) code.length := by
  induction l with
  | nil => rfl
  | cons i l ih =>
    rw [List.flatMap_cons, List.filter_append, ih, List.map_cons]
    have h : (rowP code i).filter isItem = [[32, 32] ++ itemL (code.getD i 0) code.length] := by
      unfold rowP
      have h1 : isItem (lblL i) = false := rfl
      have h2 : isItem ([32, 32] ++ itemL (code.getD i 0) code.length) = true := rfl
      split
      · rw [List.filter_append, List.filter_cons_of_neg (by rw [h1]; decide), List.filter_cons_of_pos h2]
        rfl
      · rw [List.filter_append, List.filter_cons_of_pos h2]
        rfl
    rw [h]
    rfl
theorem range_getD (code : List UInt32) {α : Type} (f : UInt32 → α) : (List.range code.length).map (fun i => f (code.getD i 0)) = code.map f := by
  apply List.ext_getElem
  · simp
  · intro i h1 h2
    simp at h1
    simp [List.getElem?_eq_getElem h1]
theorem text_apart {code code' : List UInt32} {d d' : Nat} (e : textT code d = textT code' d') : code = code' ∧ d = d' := by
  have e1 := congrArg (linesA []) e
  unfold textT at e1
  rw [lines_text, lines_text] at e1
  unfold linesP at e1
  obtain ⟨e2, e3⟩ := List.cons.inj e1
  unfold hdrL at e2
  have hd := dec_inj (List.append_cancel_left e2)
  have e4 := congrArg (List.filter isItem) e3
  rw [rows_items, rows_items, range_getD code (fun x => [32, 32] ++ itemL x code.length), range_getD code' (fun x => [32, 32] ++ itemL x code'.length)] at e4
  have hn : code.length = code'.length := by
    have := congrArg List.length e4
    simpa using this
  rw [← hn] at e4
  refine ⟨?_, hd⟩
  refine (List.map_inj_right (f := fun x => [32, 32] ++ itemL x code.length) ?_).1 e4
  intro x y h
  exact item_inj (List.append_cancel_left h)

/-- What stands behind the first line. -/
def restT (code : List UInt32) : List UInt8 := lfs ((List.range code.length).flatMap (rowP code))
theorem text_rest (code : List UInt32) (d : Nat) : textT code d = hdrL d ++ ([10] ++ restT code) := lfs_cons _ _
theorem mem_targ {code : List UInt32} {i : Nat} : i ∈ targL code ↔ i < code.length ∧ isT code i = true := by
  unfold targL
  rw [List.mem_filter, List.mem_range]
theorem isT_of {code : List UInt32} {x : UInt32} (hx : x ∈ code) (hj : jmpB x = true) {i : Nat} (hi : cD x = (i : Int)) : isT code i = true := by
  unfold isT
  rw [List.any_eq_true]
  exact ⟨x, hx, by rw [hj, decide_eq_true hi]; rfl⟩
theorem rows_same {code more : List UInt32} (h : targL code = targL (code ++ more)) {i : Nat} (hi : i < code.length) : rowP (code ++ more) i = rowP code i := by
  have ht : isT (code ++ more) i = isT code i := by
    have h1 : i ∈ targL code ↔ i ∈ targL (code ++ more) := by rw [h]
    rw [mem_targ, mem_targ, List.length_append] at h1
    cases hc : isT code i with
    | true => exact (h1.1 ⟨hi, hc⟩).2
    | false =>
      cases hm : isT (code ++ more) i with
      | false => rfl
      | true =>
        have := (h1.2 ⟨by omega, hm⟩).2
        rw [hc] at this
        exact absurd this (by decide)
  have hg : (code ++ more).getD i 0 = code.getD i 0 := by
    rw [List.getD_eq_getElem?_getD, List.getD_eq_getElem?_getD, List.getElem?_append_left hi]
  have hx : code.getD i 0 ∈ code := by
    rw [List.getD_eq_getElem?_getD, List.getElem?_eq_getElem hi]
    exact List.getElem_mem hi
  have hit : itemL (code.getD i 0) (code ++ more).length = itemL (code.getD i 0) code.length := by
    unfold itemL
    split
    · rename_i hd
      have hf : fldJ (code.getD i 0) (code ++ more).length = fldJ (code.getD i 0) code.length := by
        unfold fldJ
        cases hj : jmpB (code.getD i 0) with
        | false => rfl
        | true =>
          have h0 : 0 ≤ cD (code.getD i 0) := by unfold cD; omega
          have key : decide (cD (code.getD i 0) < ((code ++ more).length : Int)) = decide (cD (code.getD i 0) < (code.length : Int)) := by
            by_cases hlt : cD (code.getD i 0) < (code.length : Int)
            · rw [decide_eq_true hlt, decide_eq_true (by rw [List.length_append]; omega)]
            · rw [decide_eq_false hlt]
              apply decide_eq_false
              intro h2
              have h3 : (cD (code.getD i 0)).toNat ∈ targL (code ++ more) := mem_targ.2 ⟨by omega, isT_of (List.mem_append_left _ hx) hj (by omega)⟩
              rw [← h] at h3
              have := (mem_targ.1 h3).1
              omega
          rw [key]
      rw [hf]
    · rfl
  unfold rowP
  rw [ht, hg, hit]
theorem goes_on {code more : List UInt32} (h : targL code = targL (code ++ more)) (d : Nat) : ∃ r, textT (code ++ more) d = textT code d ++ r := by
  have h1 : (List.range (code ++ more).length).flatMap (rowP (code ++ more)) = (List.range code.length).flatMap (rowP code) ++ ((List.range' code.length more.length).flatMap (rowP (code ++ more))) := by
    rw [List.length_append, List.range_eq_range', show List.range' 0 (code.length + more.length) = List.range' 0 code.length ++ List.range' (0 + 1 * code.length) more.length from (List.range'_append ..).symm, List.flatMap_append, Nat.zero_add, Nat.one_mul, ← List.range_eq_range']
    congr 1
    have key : ∀ l : List Nat, (∀ i ∈ l, i < code.length) → l.flatMap (rowP (code ++ more)) = l.flatMap (rowP code) := by
      intro l
      induction l with
      | nil => intro _; rfl
      | cons i l ih =>
        intro hl
        rw [List.flatMap_cons, List.flatMap_cons, rows_same h (hl i List.mem_cons_self), ih (fun k hk => hl k (List.mem_cons_of_mem _ hk))]
    exact key _ (fun i hi => List.mem_range.1 hi)
  refine ⟨lfs ((List.range' code.length more.length).flatMap (rowP (code ++ more))), ?_⟩
  unfold textT textP linesP
  rw [h1, ← lfs_append, List.cons_append]

/-- The lines, and the targets, from a place on. -/
def rowsF (code : List UInt32) (i : Nat) : List (List UInt8) := (List.range' i (code.length - i)).flatMap (rowP code)
def targF (code : List UInt32) (i : Nat) : List Nat := (List.range' i (code.length - i)).filter (isT code)
theorem rowsF_step (code : List UInt32) (i : Nat) (h : i < code.length) : rowsF code i = rowP code i ++ rowsF code (i + 1) := by
  unfold rowsF
  rw [show code.length - i = (code.length - (i + 1)) + 1 by omega, List.range'_succ, List.flatMap_cons]
theorem targF_step (code : List UInt32) (i : Nat) (h : i < code.length) : targF code i = (if isT code i then [i] else []) ++ targF code (i + 1) := by
  unfold targF
  rw [show code.length - i = (code.length - (i + 1)) + 1 by omega, List.range'_succ]
  split
  · rename_i h2
    rw [List.filter_cons_of_pos h2]
    rfl
  · rename_i h2
    rw [List.filter_cons_of_neg h2]
    rfl
theorem rowsF_zero (code : List UInt32) (d : Nat) : linesP code d code.length = hdrL d :: rowsF code 0 := by
  unfold linesP rowsF
  rw [Nat.sub_zero, List.range_eq_range']
theorem targF_zero (code : List UInt32) : targL code = targF code 0 := by
  unfold targL targF
  rw [Nat.sub_zero, List.range_eq_range']
theorem rowsF_end (code : List UInt32) : rowsF code code.length = [] := by unfold rowsF; rw [Nat.sub_self]; rfl
theorem targF_end (code : List UInt32) : targF code code.length = [] := by unfold targF; rw [Nat.sub_self]; rfl
theorem targF_ge (code : List UInt32) (i : Nat) : ∀ t ∈ targF code i, i ≤ t ∧ t < code.length := by
  intro t ht
  unfold targF at ht
  have h := (List.mem_filter.1 ht).1
  rw [List.mem_range'_1] at h
  omega
theorem item_first (x : UInt32) (n : Nat) : ∃ c r, itemL x n = c :: r ∧ c.toNat ≠ 32 := by
  unfold itemL
  split
  · rename_i h
    obtain ⟨k, k1, k2, ek⟩ := dec_op h
    have h2 := name_first k k1 k2
    rw [ek]
    cases hn : nameI (k : Int) with
    | nil => rw [hn] at h2; exact absurd h2 (by decide)
    | cons z r =>
      rw [hn] at h2
      have h3 : isLet z = true := by simpa using h2
      unfold isLet at h3
      have h4 := of_decide_eq_true h3
      exact ⟨z, _, rfl, by omega⟩
  · exact ⟨46, _, rfl, by decide⟩
end Go.Proofs.YtneebohaanjejaaDoor
