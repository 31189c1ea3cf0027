/- Layer 7 without a program: names, words and texts of instructions tell them apart. -/
import Derived.Test.YtknonabeagbjeaaGreatDoorInL
namespace Go.Proofs.YtknonabeagbjeaaGreatDoor

theorem name_back {op : Int} (h : isOp op) : opI (nameI op) = op := by
  obtain ⟨k, k1, k2, rfl⟩ := op_cases op h
  exact opI_hit k k1 k2 rfl
theorem op_back {l : List UInt8} (h : opI l ≠ 0) : nameI (opI l) = l := by
  apply Classical.byContradiction
  intro hn
  apply h
  apply opI_miss
  intro k k1 k2 e
  apply hn
  rw [opI_hit k k1 k2 e]
  exact e
theorem enc_bounds {op a b c : Int} (h : rightI op a b c = true) : 0 ≤ encI op a b c ∧ encI op a b c < 4294967296 := by
  obtain ⟨⟨o1, o2⟩, ⟨a1, a2⟩, ⟨b1, b2⟩, ⟨c1, c2⟩⟩ := right_bounds h
  unfold encI
  omega
theorem enc_word {op a b c : Int} (h : rightI op a b c = true) : ∃ x : UInt32, (x.toNat : Int) = encI op a b c ∧ opD x = op ∧ aD x = a ∧ bD x = b ∧ cD x = c ∧ decB x = true := by
  obtain ⟨e1, e2⟩ := enc_bounds h
  have hx : ((UInt32.ofNat (encI op a b c).toNat).toNat : Int) = encI op a b c := by rw [UInt32.toNat_ofNat']; omega
  obtain ⟨⟨o1, o2⟩, ⟨a1, a2⟩, ⟨b1, b2⟩, ⟨c1, c2⟩⟩ := right_bounds h
  have k1 : opD (UInt32.ofNat (encI op a b c).toNat) = op := by unfold opD; rw [hx]; unfold encI; omega
  have k2 : aD (UInt32.ofNat (encI op a b c).toNat) = a := by unfold aD; rw [hx]; unfold encI; omega
  have k3 : bD (UInt32.ofNat (encI op a b c).toNat) = b := by unfold bD; rw [hx]; unfold encI; omega
  have k4 : cD (UInt32.ofNat (encI op a b c).toNat) = c := by unfold cD; rw [hx]; unfold encI; omega
  refine ⟨_, hx, k1, k2, k3, k4, ?_⟩
  unfold decB
  rw [k1, k2, k3, k4, h]
theorem enc_inj {op a b c op' a' b' c' : Int} (h : rightI op a b c = true) (h' : rightI op' a' b' c' = true) (e : encI op a b c = encI op' a' b' c') : op = op' ∧ a = a' ∧ b = b' ∧ c = c' := by
  obtain ⟨⟨o1, o2⟩, ⟨a1, a2⟩, ⟨b1, b2⟩, ⟨c1, c2⟩⟩ := right_bounds h
  obtain ⟨⟨p1, p2⟩, ⟨q1, q2⟩, ⟨r1, r2⟩, ⟨s1, s2⟩⟩ := right_bounds h'
  unfold encI at e
  omega
/-- A word's value, back as a word. -/
def decV (n : Nat) (l : List UInt8) : Nat := l.foldl (fun v x => v * 10 + (x.toNat - 48)) n
theorem decV_dec : ∀ n : Nat, decV 0 (Lib.decDigits n) = n := by
  intro n
  induction n using Nat.strongRecOn with
  | _ n ih =>
    by_cases h : n < 10
    · rw [Lib.decDigits_one h]
      show 0 * 10 + ((UInt8.ofNat (48 + n)).toNat - 48) = n
      rw [UInt8.toNat_ofNat']
      omega
    · have h2 := ih (n / 10) (by omega)
      rw [dec_rec' (by omega)]
      unfold decV at h2 ⊢
      rw [List.foldl_append, h2]
      show n / 10 * 10 + ((UInt8.ofNat (48 + n % 10)).toNat - 48) = n
      rw [UInt8.toNat_ofNat']
      omega
theorem dec_inj {m n : Nat} (h : Lib.decDigits m = Lib.decDigits n) : m = n := by
  rw [← decV_dec m, ← decV_dec n, h]
def isDig (x : UInt8) : Bool := decide (48 ≤ x.toNat ∧ x.toNat ≤ 57)
theorem dec_digs (n : Nat) : ∀ x ∈ Lib.decDigits n, isDig x = true := by
  induction n using Nat.strongRecOn with
  | _ n ih =>
    by_cases h : n < 10
    · rw [Lib.decDigits_one h]
      intro x hx
      rw [List.mem_singleton.1 hx]
      unfold isDig
      rw [UInt8.toNat_ofNat']
      exact decide_eq_true (by omega)
    · rw [dec_rec' (by omega)]
      intro x hx
      rcases List.mem_append.1 hx with h1 | h1
      · exact ih (n / 10) (by omega) x h1
      · rw [List.mem_singleton.1 h1]
        unfold isDig
        rw [UInt8.toNat_ofNat']
        exact decide_eq_true (by omega)
/-- Two rows that begin with bytes of one kind, and go on with one of another, are parted alike. -/
theorem part_at (p : UInt8 → Bool) : ∀ (d d' r r' : List UInt8), (∀ x ∈ d, p x = true) → (∀ x ∈ d', p x = true) → (∀ x ∈ r.head?, p x = false) → (∀ x ∈ r'.head?, p x = false) → d ++ r = d' ++ r' → d = d' ∧ r = r'
  | [], [], _, _, _, _, _, _, h => ⟨rfl, h⟩
  | [], y :: d', r, r', _, h2, h3, _, h => by
    have h9 : r = y :: (d' ++ r') := h
    have := h3 y (by rw [h9]; rfl)
    rw [h2 y List.mem_cons_self] at this
    exact absurd this (by decide)
  | x :: d, [], r, r', h1, _, _, h4, h => by
    have h9 : x :: (d ++ r) = r' := h
    have := h4 x (by rw [← h9]; rfl)
    rw [h1 x List.mem_cons_self] at this
    exact absurd this (by decide)
  | x :: d, y :: d', r, r', h1, h2, h3, h4, h => by
    have h9 : x :: (d ++ r) = y :: (d' ++ r') := h
    obtain ⟨e1, e2⟩ := List.cons.inj h9
    obtain ⟨k1, k2⟩ := part_at p d d' r r' (fun z hz => h1 z (List.mem_cons_of_mem _ hz)) (fun z hz => h2 z (List.mem_cons_of_mem _ hz)) h3 h4 e2
    exact ⟨by rw [e1, k1], k2⟩
/-- The text of fields. -/
def tailL : List UInt8 → List (ByteArray × Nat) → List UInt8
  | _, [] => []
  | s, (p, n) :: r => s ++ (p.data.toList ++ (Lib.decDigits n ++ tailL [44, 32] r))
theorem rest_tail : ∀ (l : List (ByteArray × Nat)) (t s : ByteArray), (restS t s l).data.toList = t.data.toList ++ tailL s.data.toList l
  | [], t, s => by unfold restS tailL; rw [List.append_nil]
  | (p, n) :: r, t, s => by
    unfold restS tailL
    rw [rest_tail r _ commaS]
    unfold partS
    rw [ba_app, ba_app, ba_app, show (⟨(Lib.itoa (n : Int)).toArray⟩ : ByteArray).data.toList = Lib.itoa (n : Int) from rfl, Lib.itoa_nonneg, show commaS.data.toList = [44, 32] from rfl]
    simp only [List.append_assoc]
theorem tail_head (l : List (ByteArray × Nat)) : ∀ x ∈ (tailL [44, 32] l).head?, isDig x = false := by
  cases l with
  | nil => intro x hx; exact absurd hx (by unfold tailL; simp)
  | cons y l =>
    obtain ⟨p, n⟩ := y
    intro x hx
    have h9 : (tailL [44, 32] ((p, n) :: l)).head? = some 44 := rfl
    rw [h9] at hx
    obtain rfl := Option.mem_some.1 hx
    decide
theorem tail_inj : ∀ (l l' : List (ByteArray × Nat)) (s : List UInt8), l.map Prod.fst = l'.map Prod.fst → tailL s l = tailL s l' → l.map Prod.snd = l'.map Prod.snd
  | [], [], _, _, _ => rfl
  | [], _ :: _, _, h, _ => by simp at h
  | _ :: _, [], _, h, _ => by simp at h
  | (p, n) :: l, (q, m) :: l', s, h, e => by
    simp only [List.map_cons, List.cons.injEq] at h
    obtain ⟨rfl, h2⟩ := h
    unfold tailL at e
    have e2 := List.append_cancel_left (List.append_cancel_left e)
    obtain ⟨e3, e4⟩ := part_at isDig _ _ _ _ (dec_digs n) (dec_digs m) (tail_head l) (tail_head l') e2
    have e5 := tail_inj l l' _ h2 e4
    simp only [List.map_cons]
    rw [dec_inj e3, e5]
def isLet (x : UInt8) : Bool := decide (97 ≤ x.toNat)
theorem name_let : ∀ k, k < 28 → (nameI ((k : Nat) : Int)).all isLet = true := by decide
theorem within_no {v m : Int} (h : withinI v m false = true) : v = 0 := by
  unfold withinI at h
  simpa using h
theorem right_parts {op a b c : Int} (h : rightI op a b c = true) : (shA op = false → a = 0) ∧ (shB op = false → b = 0) ∧ (shC op = 0 → c = 0) := by
  unfold rightI at h
  simp only [Bool.and_eq_true] at h
  obtain ⟨_, h1, h2, h3⟩ := h
  refine ⟨fun e => ?_, fun e => ?_, fun e => ?_⟩
  · rw [e] at h1; exact within_no h1
  · rw [e] at h2; exact within_no h2
  · rw [show decide (shC op ≠ 0) = false from decide_eq_false (fun hn => hn e)] at h3; exact within_no h3
theorem fields_fst (A B : Bool) (C : Int) (a b c a' b' c' : Nat) : (fieldsB A B C a b c).map Prod.fst = (fieldsB A B C a' b' c').map Prod.fst := by
  unfold fieldsB
  cases A <;> cases B <;> (by_cases h1 : C = 1 <;> by_cases h2 : C = 2 <;> simp [h1, h2])
theorem fields_snd (A B : Bool) (C : Int) (a b c a' b' c' : Nat) (h : (fieldsB A B C a b c).map Prod.snd = (fieldsB A B C a' b' c').map Prod.snd) (hC : C = 0 ∨ C = 1 ∨ C = 2) : (A = true → a = a') ∧ (B = true → b = b') ∧ (C ≠ 0 → c = c') := by
  unfold fieldsB at h
  rcases hC with rfl | rfl | rfl <;> cases A <;> cases B <;> simp at h ⊢ <;> omega
theorem text_inj {op a b c op' a' b' c' : Int} (h : rightI op a b c = true) (h' : rightI op' a' b' c' = true) (e : textB op a b c = textB op' a' b' c') : op = op' ∧ a = a' ∧ b = b' ∧ c = c' := by
  obtain ⟨hio, ⟨a1, a2⟩, ⟨b1, b2⟩, ⟨c1, c2⟩⟩ := right_bounds h
  obtain ⟨hio', ⟨q1, q2⟩, ⟨r1, r2⟩, ⟨s1, s2⟩⟩ := right_bounds h'
  obtain ⟨za, zb, zc⟩ := right_parts h
  obtain ⟨ya, yb, yc⟩ := right_parts h'
  obtain ⟨k, k1, k2, rfl⟩ := op_cases op hio
  obtain ⟨j, j1, j2, rfl⟩ := op_cases op' hio'
  unfold textB at e
  rw [if_pos h, if_pos h'] at e
  have e1 := congrArg (fun t : ByteArray => t.data.toList) e
  rw [rest_tail, rest_tail] at e1
  have hsp : ∀ l : List (ByteArray × Nat), ∀ x ∈ (tailL spS.data.toList l).head?, isLet x = false := by
    intro l x hx
    cases l with
    | nil => exact absurd hx (by unfold tailL; simp)
    | cons y l =>
      obtain ⟨p, n⟩ := y
      have h9 : (tailL spS.data.toList ((p, n) :: l)).head? = some 32 := rfl
      rw [h9] at hx
      obtain rfl := Option.mem_some.1 hx
      decide
  obtain ⟨e2, e3⟩ := part_at isLet _ _ _ _ (List.all_eq_true.1 (name_let k (by omega))) (List.all_eq_true.1 (name_let j (by omega))) (hsp _) (hsp _) e1
  obtain rfl := name_apart k (by omega) k1 j (by omega) j1 e2
  have e4 := tail_inj _ _ _ (fields_fst _ _ _ _ _ _ _ _ _) e3
  obtain ⟨f1, f2, f3⟩ := fields_snd _ _ _ _ _ _ _ _ _ e4 (shC_cases _)
  refine ⟨rfl, ?_, ?_, ?_⟩
  · cases hA : shA (k : Int) with
    | false => rw [za hA, ya hA]
    | true => have := f1 hA; omega
  · cases hB : shB (k : Int) with
    | false => rw [zb hB, yb hB]
    | true => have := f2 hB; omega
  · by_cases hC : shC (k : Int) = 0
    · rw [zc hC, yc hC]
    · have := f3 hC; omega
end Go.Proofs.YtknonabeagbjeaaGreatDoor
