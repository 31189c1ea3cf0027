/- Layer 11 without a program: what a listing tells. -/
/- Layer 11: the set of targets as a map of the call's own: what it reads as, key by key. -/
import Derived.Lib.OthersKept
import Derived.Maps.Own
import Derived.Maps.OwnOps
import Derived.Maps.OwnSet
import Derived.Maps.Views
import Derived.Lib.SlKeysI
import Derived.Test.YtknonabeagbjeaaGreatDoorLs
namespace Go.Proofs.YtknonabeagbjeaaGreatDoor
open Go.RowKit

theorem dec_headL (n : Nat) : ∃ x r, Lib.decDigits n = x :: r ∧ isDig x = true := by
  cases h : Lib.decDigits n with
  | nil =>
    have h2 : (Lib.decDigits n).length = 0 := by rw [h]; rfl
    by_cases hn : n < 10
    · rw [Lib.decDigits_one hn] at h2; simp at h2
    · rw [dec_rec' (by omega)] at h2; simp at h2
  | cons x r => exact ⟨x, r, rfl, dec_digs n x (by rw [h]; exact List.mem_cons_self)⟩
theorem pre_nodig {p : ByteArray} (h : okPre p) : ∀ x ∈ p.data.toList, (fun y => !isDig y) x = true := by
  rcases h with rfl | rfl | rfl <;> (rw [← List.all_eq_true]; decide)
theorem dec_app_head (n : Nat) (r : List UInt8) : ∀ x ∈ (Lib.decDigits n ++ r).head?, (fun y => !isDig y) x = false := by
  obtain ⟨x, q, e, hx⟩ := dec_headL n
  rw [e]
  intro y hy
  obtain rfl : x = y := by simpa using hy
  simp [hx]
theorem tail_inj2 : ∀ (l l' : List (ByteArray × Nat)) (s : List UInt8), s ≠ [] → (∀ p ∈ l, okPre p.1) → (∀ p ∈ l', okPre p.1) → tailL s l = tailL s l' → l.map Prod.snd = l'.map Prod.snd
  | [], [], _, _, _, _, _ => rfl
  | [], (q, m) :: l', s, hs, _, _, e => by
    unfold tailL at e
    have e2 := congrArg List.length e
    simp only [List.length_append, List.length_nil] at e2
    exact absurd (List.length_eq_zero_iff.1 (by omega)) hs
  | (p, n) :: l, [], s, hs, _, _, e => by
    unfold tailL at e
    have e2 := congrArg List.length e
    simp only [List.length_append, List.length_nil] at e2
    exact absurd (List.length_eq_zero_iff.1 (by omega)) hs
  | (p, n) :: l, (q, m) :: l', s, hs, h, h', e => by
    unfold tailL at e
    have e1 := List.append_cancel_left e
    obtain ⟨_, e2⟩ := part_at (fun y => !isDig y) _ _ _ _ (pre_nodig (h (p, n) List.mem_cons_self)) (pre_nodig (h' (q, m) List.mem_cons_self)) (dec_app_head n _) (dec_app_head m _) e1
    obtain ⟨e3, e4⟩ := part_at isDig _ _ _ _ (dec_digs n) (dec_digs m) (tail_head l) (tail_head l') e2
    have ih := tail_inj2 l l' [44, 32] (by simp) (fun z hz => h z (List.mem_cons_of_mem _ hz)) (fun z hz => h' z (List.mem_cons_of_mem _ hz)) e4
    simp only [List.map_cons]
    rw [dec_inj e3, ih]
theorem fldJ_snd (x : UInt32) (n : Nat) : (fldJ x n).map Prod.snd = (fieldsB (shA (opD x)) (shB (opD x)) (shC (opD x)) (aD x).toNat (bD x).toNat (cD x).toNat).map Prod.snd := by
  unfold fldJ fieldsB
  cases shA (opD x) <;> cases shB (opD x) <;> (by_cases h1 : shC (opD x) = 1 <;> by_cases h2 : shC (opD x) = 2 <;> simp [h1, h2])
theorem sp_head (l : List (ByteArray × Nat)) : ∀ x ∈ (tailL [32] l).head?, isLet x = false := by
  intro x hx
  cases l with
  | nil => exact absurd hx (by unfold tailL; simp)
  | cons y l =>
    obtain ⟨p, n⟩ := y
    have h9 : (tailL [32] ((p, n) :: l)).head? = some 32 := rfl
    rw [h9] at hx
    obtain rfl := Option.mem_some.1 hx
    decide
theorem word_eq {x y : UInt32} (h1 : opD x = opD y) (h2 : aD x = aD y) (h3 : bD x = bD y) (h4 : cD x = cD y) : x = y := by
  have hx := x.toNat_lt
  have hy := y.toNat_lt
  apply UInt32.toNat_inj.1
  unfold opD at h1
  unfold aD at h2
  unfold bD at h3
  unfold cD at h4
  omega
theorem name_first : ∀ k, k < 28 → 1 ≤ k → (nameI ((k : Nat) : Int)).head?.map isLet = some true := by decide
theorem item_inj {x y : UInt32} {n : Nat} (e : itemL x n = itemL y n) : x = y := by
  unfold itemL at e
  cases hx : decB x with
  | true =>
    obtain ⟨k, k1, k2, ek⟩ := dec_op hx
    cases hy : decB y with
    | true =>
      obtain ⟨j, j1, j2, ej⟩ := dec_op hy
      rw [if_pos hx, if_pos hy] at e
      rw [ek, ej] at e
      obtain ⟨e2, e3⟩ := part_at isLet _ _ _ _ (List.all_eq_true.1 (name_let k k1)) (List.all_eq_true.1 (name_let j j1)) (sp_head _) (sp_head _) e
      obtain rfl := name_apart k k1 k2 j j1 j2 e2
      have e4 := tail_inj2 _ _ [32] (by simp) (fldJ_pre x n) (fldJ_pre y n) e3
      rw [fldJ_snd, fldJ_snd, ek, ej] at e4
      obtain ⟨f1, f2, f3⟩ := fields_snd _ _ _ _ _ _ _ _ _ e4 (shC_cases _)
      have hx2 := hx
      have hy2 := hy
      unfold decB at hx hy
      obtain ⟨_, ⟨a1, a2⟩, ⟨b1, b2⟩, ⟨c1, c2⟩⟩ := right_bounds hx
      obtain ⟨_, ⟨q1, q2⟩, ⟨r1, r2⟩, ⟨s1, s2⟩⟩ := right_bounds hy
      obtain ⟨za, zb, zc⟩ := right_parts hx
      obtain ⟨ya, yb, yc⟩ := right_parts hy
      rw [ek] at za zb zc
      rw [ej] at ya yb yc
      refine word_eq (ek.trans ej.symm) ?_ ?_ ?_
      · cases hA : shA (k : Int) with
        | false => rw [za hA, ya hA]
        | true => have := f1 hA; omega
      · cases hB : shB (k : Int) with
        | false => rw [zb hB, yb hB]
        | true => have := f2 hB; omega
      · by_cases hC : shC (k : Int) = 0
        · rw [zc hC, yc hC]
        · have := f3 hC; omega
    | false =>
      rw [if_pos hx, if_neg (by rw [hy]; decide), ek] at e
      have h := name_first k k1 k2
      cases hn : nameI (k : Int) with
      | nil => rw [hn] at h; exact absurd h (by decide)
      | cons z r =>
        rw [hn] at h e
        have h2 : isLet z = true := by simpa using h
        have e5 := (List.cons.inj e).1
        rw [e5] at h2
        exact absurd h2 (by decide)
  | false =>
    cases hy : decB y with
    | true =>
      obtain ⟨k, k1, k2, ek⟩ := dec_op hy
      rw [if_pos hy, if_neg (by rw [hx]; decide), ek] at e
      have h := name_first k k1 k2
      cases hn : nameI (k : Int) with
      | nil => rw [hn] at h; exact absurd h (by decide)
      | cons z r =>
        rw [hn] at h e
        have h2 : isLet z = true := by simpa using h
        have e5 := (List.cons.inj e).1
        rw [← e5] at h2
        exact absurd h2 (by decide)
    | false =>
      rw [if_neg (by rw [hx]; decide), if_neg (by rw [hy]; decide)] at e
      exact UInt32.toNat_inj.1 (dec_inj (List.append_cancel_left e))

/-- The words' lines alone. -/
def isItem (l : List UInt8) : Bool := decide (l.head? = some 32)
theorem rows_items (code : List UInt32) (l : List Nat) : (l.flatMap (rowP code)).filter isItem = l.map fun i => [32, 32] ++ itemL (code.getD i 0) code.length := by
  induction l with
  | nil => rfl
  | cons i l ih =>
    rw [List.flatMap_cons, List.filter_append, ih, List.map_cons]
    have h : (rowP code i).filter isItem = [[32, 32] ++ itemL (code.getD i 0) code.length] := by
      unfold rowP
      have h1 : isItem (lblL i) = false := rfl
      have h2 : isItem ([32, 32] ++ itemL (code.getD i 0) code.length) = true := rfl
      split
      · rw [List.filter_append, List.filter_cons_of_neg (by rw [h1]; decide), List.filter_cons_of_pos h2]
        rfl
      · rw [List.filter_append, List.filter_cons_of_pos h2]
        rfl
    rw [h]
    rfl
theorem range_getD (code : List UInt32) {α : Type} (f : UInt32 → α) : (List.range code.length).map (fun i => f (code.getD i 0)) = code.map f := by
  apply List.ext_getElem
  · simp
  · intro i h1 h2
    simp at h1
    simp [List.getElem?_eq_getElem h1]
theorem text_apart {code code' : List UInt32} {d d' : Nat} (e : textT code d = textT code' d') : code = code' ∧ d = d' := by
  have e1 := congrArg (linesA []) e
  unfold textT at e1
  rw [lines_text, lines_text] at e1
  unfold linesP at e1
  obtain ⟨e2, e3⟩ := List.cons.inj e1
  unfold hdrL at e2
  have hd := dec_inj (List.append_cancel_left e2)
  have e4 := congrArg (List.filter isItem) e3
  rw [rows_items, rows_items, range_getD code (fun x => [32, 32] ++ itemL x code.length), range_getD code' (fun x => [32, 32] ++ itemL x code'.length)] at e4
  have hn : code.length = code'.length := by
    have := congrArg List.length e4
    simpa using this
  rw [← hn] at e4
  refine ⟨?_, hd⟩
  refine (List.map_inj_right (f := fun x => [32, 32] ++ itemL x code.length) ?_).1 e4
  intro x y h
  exact item_inj (List.append_cancel_left h)

/-- What stands behind the first line. -/
def restT (code : List UInt32) : List UInt8 := lfs ((List.range code.length).flatMap (rowP code))
theorem text_rest (code : List UInt32) (d : Nat) : textT code d = hdrL d ++ ([10] ++ restT code) := lfs_cons _ _
theorem mem_targ {code : List UInt32} {i : Nat} : i ∈ targL code ↔ i < code.length ∧ isT code i = true := by
  unfold targL
  rw [List.mem_filter, List.mem_range]
theorem isT_of {code : List UInt32} {x : UInt32} (hx : x ∈ code) (hj : jmpB x = true) {i : Nat} (hi : cD x = (i : Int)) : isT code i = true := by
  unfold isT
  rw [List.any_eq_true]
  exact ⟨x, hx, by rw [hj, decide_eq_true hi]; rfl⟩
theorem rows_same {code more : List UInt32} (h : targL code = targL (code ++ more)) {i : Nat} (hi : i < code.length) : rowP (code ++ more) i = rowP code i := by
  have ht : isT (code ++ more) i = isT code i := by
    have h1 : i ∈ targL code ↔ i ∈ targL (code ++ more) := by rw [h]
    rw [mem_targ, mem_targ, List.length_append] at h1
    cases hc : isT code i with
    | true => exact (h1.1 ⟨hi, hc⟩).2
    | false =>
      cases hm : isT (code ++ more) i with
      | false => rfl
      | true =>
        have := (h1.2 ⟨by omega, hm⟩).2
        rw [hc] at this
        exact absurd this (by decide)
  have hg : (code ++ more).getD i 0 = code.getD i 0 := by
    rw [List.getD_eq_getElem?_getD, List.getD_eq_getElem?_getD, List.getElem?_append_left hi]
  have hx : code.getD i 0 ∈ code := by
    rw [List.getD_eq_getElem?_getD, List.getElem?_eq_getElem hi]
    exact List.getElem_mem hi
  have hit : itemL (code.getD i 0) (code ++ more).length = itemL (code.getD i 0) code.length := by
    unfold itemL
    split
    · rename_i hd
      have hf : fldJ (code.getD i 0) (code ++ more).length = fldJ (code.getD i 0) code.length := by
        unfold fldJ
        cases hj : jmpB (code.getD i 0) with
        | false => rfl
        | true =>
          have h0 : 0 ≤ cD (code.getD i 0) := by unfold cD; omega
          have key : decide (cD (code.getD i 0) < ((code ++ more).length : Int)) = decide (cD (code.getD i 0) < (code.length : Int)) := by
            by_cases hlt : cD (code.getD i 0) < (code.length : Int)
            · rw [decide_eq_true hlt, decide_eq_true (by rw [List.length_append]; omega)]
            · rw [decide_eq_false hlt]
              apply decide_eq_false
              intro h2
              have h3 : (cD (code.getD i 0)).toNat ∈ targL (code ++ more) := mem_targ.2 ⟨by omega, isT_of (List.mem_append_left _ hx) hj (by omega)⟩
              rw [← h] at h3
              have := (mem_targ.1 h3).1
              omega
          rw [key]
      rw [hf]
    · rfl
  unfold rowP
  rw [ht, hg, hit]
theorem goes_on {code more : List UInt32} (h : targL code = targL (code ++ more)) (d : Nat) : ∃ r, textT (code ++ more) d = textT code d ++ r := by
  have h1 : (List.range (code ++ more).length).flatMap (rowP (code ++ more)) = (List.range code.length).flatMap (rowP code) ++ ((List.range' code.length more.length).flatMap (rowP (code ++ more))) := by
    rw [List.length_append, List.range_eq_range', show List.range' 0 (code.length + more.length) = List.range' 0 code.length ++ List.range' (0 + 1 * code.length) more.length from (List.range'_append ..).symm, List.flatMap_append, Nat.zero_add, Nat.one_mul, ← List.range_eq_range']
    congr 1
    have key : ∀ l : List Nat, (∀ i ∈ l, i < code.length) → l.flatMap (rowP (code ++ more)) = l.flatMap (rowP code) := by
      intro l
      induction l with
      | nil => intro _; rfl
      | cons i l ih =>
        intro hl
        rw [List.flatMap_cons, List.flatMap_cons, rows_same h (hl i List.mem_cons_self), ih (fun k hk => hl k (List.mem_cons_of_mem _ hk))]
    exact key _ (fun i hi => List.mem_range.1 hi)
  refine ⟨lfs ((List.range' code.length more.length).flatMap (rowP (code ++ more))), ?_⟩
  unfold textT textP linesP
  rw [h1, ← lfs_append, List.cons_append]

/-- The lines, and the targets, from a place on. -/
def rowsF (code : List UInt32) (i : Nat) : List (List UInt8) := (List.range' i (code.length - i)).flatMap (rowP code)
def targF (code : List UInt32) (i : Nat) : List Nat := (List.range' i (code.length - i)).filter (isT code)
theorem rowsF_step (code : List UInt32) (i : Nat) (h : i < code.length) : rowsF code i = rowP code i ++ rowsF code (i + 1) := by
  unfold rowsF
  rw [show code.length - i = (code.length - (i + 1)) + 1 by omega, List.range'_succ, List.flatMap_cons]
theorem targF_step (code : List UInt32) (i : Nat) (h : i < code.length) : targF code i = (if isT code i then [i] else []) ++ targF code (i + 1) := by
  unfold targF
  rw [show code.length - i = (code.length - (i + 1)) + 1 by omega, List.range'_succ]
  split
  · rename_i h2
    rw [List.filter_cons_of_pos h2]
    rfl
  · rename_i h2
    rw [List.filter_cons_of_neg h2]
    rfl
theorem rowsF_zero (code : List UInt32) (d : Nat) : linesP code d code.length = hdrL d :: rowsF code 0 := by
  unfold linesP rowsF
  rw [Nat.sub_zero, List.range_eq_range']
theorem targF_zero (code : List UInt32) : targL code = targF code 0 := by
  unfold targL targF
  rw [Nat.sub_zero, List.range_eq_range']
theorem rowsF_end (code : List UInt32) : rowsF code code.length = [] := by unfold rowsF; rw [Nat.sub_self]; rfl
theorem targF_end (code : List UInt32) : targF code code.length = [] := by unfold targF; rw [Nat.sub_self]; rfl
theorem targF_ge (code : List UInt32) (i : Nat) : ∀ t ∈ targF code i, i ≤ t ∧ t < code.length := by
  intro t ht
  unfold targF at ht
  have h := (List.mem_filter.1 ht).1
  rw [List.mem_range'_1] at h
  omega
theorem item_first (x : UInt32) (n : Nat) : ∃ c r, itemL x n = c :: r ∧ c.toNat ≠ 32 := by
  unfold itemL
  split
  · rename_i h
    obtain ⟨k, k1, k2, ek⟩ := dec_op h
    have h2 := name_first k k1 k2
    rw [ek]
    cases hn : nameI (k : Int) with
    | nil => rw [hn] at h2; exact absurd h2 (by decide)
    | cons z r =>
      rw [hn] at h2
      have h3 : isLet z = true := by simpa using h2
      unfold isLet at h3
      have h4 := of_decide_eq_true h3
      exact ⟨z, _, rfl, by omega⟩
  · exact ⟨46, _, rfl, by decide⟩
end Go.Proofs.YtknonabeagbjeaaGreatDoor
namespace Go.Proofs.YtknonabeagbjeaaGreatDoor
open Go.RowKit Go.Maps

/-- The map as it is read holds just the keys of f, each true. -/
def SetD (D : DataW Unit) (f : Int → Bool) : Prop := IsMap D ∧ ∀ x : Int, has D (.int .i64 x) = f x ∧ D.atKey (.int .i64 x) (.lit (.bool false)) = .lit (.bool (f x))
theorem SetD.none : SetD (.map []) (fun _ => false) := ⟨isMap_empty, fun _ => ⟨rfl, rfl⟩⟩
theorem SetD.put {D : DataW Unit} {f : Int → Bool} (h : SetD D f) (k : Int) : SetD (D.put (.int .i64 k) (.lit (.bool true))) (fun x => f x || decide (x = k)) := by
  refine ⟨h.1.put _ _, fun x => ?_⟩
  have hkl : WideAt.IsKeyLit (.int .i64 x) := trivial
  show has _ _ = (f x || decide (x = k)) ∧ _ = DataW.lit (Lit.bool (f x || decide (x = k)))
  by_cases e : x = k
  · subst e
    rw [has_put_same h.1 hkl, atKey_put_same h.1 hkl, decide_eq_true rfl, Bool.or_true]
    exact ⟨rfl, rfl⟩
  · have hne : (Lit.int .i64 x) ≠ (Lit.int .i64 k) := fun e2 => e (by injection e2)
    rw [has_put_other hne, atKey_put_other hne, decide_eq_false e, Bool.or_false]
    exact h.2 x
theorem SetD.congr {D : DataW Unit} {f g : Int → Bool} (h : SetD D f) (e : ∀ x, f x = g x) : SetD D g := ⟨h.1, fun x => by rw [← e x]; exact h.2 x⟩
/-- The places to which the first j words lead, inside the code. -/
def setB (code : List UInt32) (j : Nat) (x : Int) : Bool := (code.take j).any (fun w => jmpB w && decide (cD w = x)) && decide (x < (code.length : Int))
theorem setB_zero (code : List UInt32) (x : Int) : setB code 0 x = false := rfl
theorem setB_skip {code : List UInt32} {j : Nat} (hj : j < code.length) (h : jmpB code[j] = false ∨ ¬ cD code[j] < (code.length : Int)) (x : Int) : setB code (j + 1) x = setB code j x := by
  unfold setB
  rw [List.take_succ_eq_append_getElem hj, List.any_append]
  rcases h with h | h
  · rw [List.any_cons, h]
    simp
  · by_cases hx : x < (code.length : Int)
    · have hne : ¬ cD code[j] = x := by omega
      rw [List.any_cons, decide_eq_false hne]
      simp
    · rw [decide_eq_false hx, Bool.and_false, Bool.and_false]
theorem setB_put {code : List UInt32} {j : Nat} (hj : j < code.length) (h : jmpB code[j] = true) (hlt : cD code[j] < (code.length : Int)) (x : Int) : (setB code j x || decide (x = cD code[j])) = setB code (j + 1) x := by
  unfold setB
  rw [List.take_succ_eq_append_getElem hj, List.any_append, List.any_cons, h]
  by_cases e : x = cD code[j]
  · subst e
    simp [hlt]
  · have hne : ¬ cD code[j] = x := fun e2 => e e2.symm
    rw [decide_eq_false e, decide_eq_false hne]
    simp
theorem setB_all (code : List UInt32) (i : Nat) : setB code code.length (i : Int) = (isT code i && decide (i < code.length)) := by
  unfold setB isT
  rw [List.take_of_length_le (Nat.le_refl _)]
  by_cases h : i < code.length
  · rw [decide_eq_true h, decide_eq_true (by omega)]
  · rw [decide_eq_false h, decide_eq_false (by omega)]
theorem setB_neg (code : List UInt32) (x : Int) (h : x < 0) : setB code code.length x = false := by
  unfold setB
  have h2 : (code.take code.length).any (fun w => jmpB w && decide (cD w = x)) = false := by
    rw [List.any_eq_false]
    intro w _
    have : 0 ≤ cD w := by unfold cD; omega
    rw [decide_eq_false (by omega)]
    simp
  rw [h2]
  rfl
/-- The keys, sorted. -/
theorem keys_targ {code : List UInt32} {D : DataW Unit} (hS : SetD D (setB code code.length)) {P : Program} {k : TypeId} {R : Value → Option (DataW Unit × List MemPlace)} {w : World} {b n : Nat} (hown : w.ownsMap P k R b n D) (hk : P.underlying k = some (.int .i64))
    {ss : List Int} (hp : ss.Perm (intKeys D)) : ss.mergeSort (fun x y => decide (x ≤ y)) = (targL code).map (fun i : Nat => (i : Int)) ∧ ss.length = (targL code).length := by
  have hnd : (targL code).Pairwise (· < ·) := by
    unfold targL
    exact List.Pairwise.filter _ List.pairwise_lt_range
  have hC : CollectedI D (fun _ => false) ((targL code).map (fun i : Nat => (i : Int))) := by
    constructor
    · rw [List.Nodup, List.pairwise_map]
      exact hnd.imp (fun h e => by omega)
    · intro x
      rw [(hS.2 x).1, List.mem_map]
      constructor
      · rintro ⟨i, hi, rfl⟩
        obtain ⟨h1, h2⟩ := mem_targ.1 hi
        rw [setB_all, h2, decide_eq_true h1]
        exact ⟨rfl, rfl⟩
      · rintro ⟨h, _⟩
        by_cases hx : x < 0
        · rw [setB_neg _ _ hx] at h
          exact absurd h (by decide)
        · refine ⟨x.toNat, ?_, by omega⟩
          rw [show x = ((x.toNat : Nat) : Int) by omega, setB_all, Bool.and_eq_true] at h
          exact mem_targ.2 ⟨of_decide_eq_true h.2, h.1⟩
  have hL := hC.perm hown (int_keyed hk) hk (fun _ => rfl)
  have hpp := hp.trans hL.symm
  refine ⟨?_, ?_⟩
  · rw [mergeSort_of_perm_i hpp]
    apply List.mergeSort_of_pairwise
    rw [List.pairwise_map]
    exact hnd.imp (fun h => by simp only [decide_eq_true_eq]; omega)
  · have := hpp.length_eq
    rwa [List.length_map] at this
theorem plainElem_bool_inv {P : Program} {e : TypeId} (he : P.underlying e = some .bool) {v : Value} {z : DataW Unit × List MemPlace} (h : plainElem P e v = some z) : ∃ x, v = .bool x ∧ z = (.lit (.bool x), []) := by
  unfold plainElem at h
  rw [he] at h
  cases v <;> simp at h
  subst h
  exact ⟨_, rfl, rfl⟩

/-- The set's block in some later world. -/
def Tm (w : World) (b : Nat) (code : List UInt32) (j : Nat) : Prop := ∃ n D, n ≤ j ∧ w.ownsMap Tryz.prog 3 (plainElem (H := Unit) Tryz.prog 4) b n D ∧ SetD D (setB code j)
theorem Tm.block {w w' : World} {b j : Nat} {code : List UInt32} (h : Tm w b code j) (hb : ∀ o, w.heap[b]? = some o → (∀ c t fz, o ≠ .cells c t fz) → w'.heap[b]? = some o) : Tm w' b code j := by
  obtain ⟨n, D, hn, ⟨es, clock, hh, r⟩, hS⟩ := h
  exact ⟨n, D, hn, ⟨es, clock, hb _ hh (fun _ _ _ e => by cases e), r⟩, hS⟩
theorem Tm.lt {w : World} {b j : Nat} {code : List UInt32} (h : Tm w b code j) : b < w.heap.size := by
  obtain ⟨n, D, hn, ⟨es, clock, hh, r⟩, hS⟩ := h
  exact (Array.getElem?_eq_some_iff.1 hh).1
theorem Tm.below {w w' : World} {b j : Nat} {code : List UInt32} (h : Tm w b code j) {B : Nat} (hB : B = w.heap.size) (hb : Below B w w') : Tm w' b code j :=
  h.block fun o ho _ => by subst hB; exact (hb.block b h.lt).trans ho
theorem Tm.others {w w' : World} {b j q : Nat} {code : List UInt32} (h : Tm w b code j) (hq : b ≠ q) (hk : Lib.OthersKept 5 (some q) w w') : Tm w' b code j :=
  h.block fun o ho hc => hk b o ho (fun e => hq (by injection e)) (fun c fz => hc c _ fz)
theorem Tm.look {w : World} {b : Nat} {code : List UInt32} (h : Tm w b code code.length) (x : Int) (hx : (Lit.int .i64 x).wf = true) : (Instr.lookup 54 (.map (some b)) (.int .i64 x) false).run Tryz.prog w = .ok (.bool (setB code code.length x)) w := by
  obtain ⟨n, D, hn, hown, hS⟩ := h
  obtain ⟨v, ps, hrun, hv⟩ := hown.lookup (int_keyed Tryz.underlying3) Tryz.underlying54 (z := .bool false) (by kernel_rfl) (plainElem_bool Tryz.underlying4 false) (key := .int .i64 x) (kl := .int .i64 x) (keyOf_int_mk Tryz.underlying3 hx)
  obtain ⟨y, rfl, hy⟩ := plainElem_bool_inv Tryz.underlying4 hv
  simp only [Prod.mk.injEq] at hy
  rw [(hS.2 x).2] at hy
  generalize setB code code.length x = z at hy ⊢
  obtain rfl : z = y := Lit.bool.inj (DataW.lit.inj hy.1)
  exact hrun
end Go.Proofs.YtknonabeagbjeaaGreatDoor
