/- Layer 12 without a program: a listing's lines, as the assembler takes them apart. -/
/- Layer 12 without a program: a listing's line, as the assembler reads it. -/
/- Layer 12 without a program: a listing's operands, as the assembler reads them. -/
/- Layer 12 without a program: what a listing's line does to what was read. -/
/- Layer 12 without a program: a listing, read line by line. -/
import Derived.Test.YtknonabeagbjeaaGreatDoorBn
import Derived.Test.YtknonabeagbjeaaGreatDoorLs
namespace Go.Proofs.YtknonabeagbjeaaGreatDoor

theorem findL_none (c : UInt8) : ∀ l : List UInt8, (∀ x ∈ l, x ≠ c) → findL c l = l.length
  | [], _ => rfl
  | x :: r, h => by
    rw [findL, if_neg (h x List.mem_cons_self), findL_none c r (fun y hy => h y (List.mem_cons_of_mem _ hy))]
    rfl
theorem findL_at (c : UInt8) : ∀ (a r : List UInt8), (∀ x ∈ a, x ≠ c) → findL c (a ++ c :: r) = a.length
  | [], r, _ => by rw [List.nil_append, findL, if_pos rfl]; rfl
  | x :: a, r, h => by
    rw [List.cons_append, findL, if_neg (h x List.mem_cons_self), findL_at c a r (fun y hy => h y (List.mem_cons_of_mem _ hy))]
    rfl
theorem blankAt_at : ∀ (a r : List UInt8), (∀ x ∈ a, blankB x = false) → blankAt (a ++ 32 :: r) = a.length
  | [], r, _ => by rw [List.nil_append, blankAt]; rfl
  | x :: a, r, h => by
    rw [List.cons_append, blankAt, h x List.mem_cons_self, blankAt_at a r (fun y hy => h y (List.mem_cons_of_mem _ hy))]
    rfl
theorem blankAt_none : ∀ (a : List UInt8), (∀ x ∈ a, blankB x = false) → blankAt a = a.length
  | [], _ => rfl
  | x :: a, h => by
    rw [blankAt, h x List.mem_cons_self, blankAt_none a (fun y hy => h y (List.mem_cons_of_mem _ hy))]
    rfl
/-- A text that begins and ends with no blank. -/
def edge (l : List UInt8) : Prop := (∀ x ∈ l.head?, blankB x = false) ∧ (∀ x ∈ l.getLast?, blankB x = false)
theorem dropWhile_edge {l : List UInt8} (h : ∀ x ∈ l.head?, blankB x = false) : l.dropWhile blankB = l := by
  cases l with
  | nil => rfl
  | cons x r => rw [List.dropWhile_cons_of_neg (by rw [h x rfl]; decide)]
theorem trimR_edge {l : List UInt8} (h : ∀ x ∈ l.getLast?, blankB x = false) : trimR l = l := by
  unfold trimR
  rw [dropWhile_edge (by rw [List.head?_reverse]; exact h), List.reverse_reverse]
theorem trimP_edge {l : List UInt8} (h : edge l) : trimP l = l := by
  unfold trimP
  rw [trimR_edge h.2, dropWhile_edge h.1]
theorem trimP_lead {l : List UInt8} (h : edge l) (hne : l ≠ []) : trimP (32 :: l) = l := by
  have h2 : ∀ x ∈ (32 :: l).getLast?, blankB x = false := by
    rw [List.getLast?_cons]
    cases l with
    | nil => exact absurd rfl hne
    | cons y r =>
      intro x hx
      refine h.2 x ?_
      rw [List.getLast?_eq_some_getLast hne] at hx ⊢
      exact hx
  unfold trimP
  rw [trimR_edge h2, List.dropWhile_cons_of_pos (by decide), dropWhile_edge h.1]
theorem trimP_lead2 {l : List UInt8} (h : edge l) (hne : l ≠ []) : trimP (32 :: 32 :: l) = l := by
  have h2 : ∀ x ∈ (32 :: 32 :: l).getLast?, blankB x = false := by
    rw [List.getLast?_cons, List.getLast?_cons]
    intro x hx
    refine h.2 x ?_
    rw [List.getLast?_eq_some_getLast hne] at hx ⊢
    exact hx
  unfold trimP
  rw [trimR_edge h2, List.dropWhile_cons_of_pos (by decide), List.dropWhile_cons_of_pos (by decide), dropWhile_edge h.1]
/-- No blank, no sign of the assembler's. -/
def okC (c : UInt8) : Prop := 48 ≤ c.toNat ∧ c.toNat ≠ 58
theorem okC.blank {c : UInt8} (h : okC c) : blankB c = false := by
  unfold blankB
  have h1 : c ≠ 32 := by rintro rfl; exact absurd h.1 (by decide)
  have h2 : c ≠ 9 := by rintro rfl; exact absurd h.1 (by decide)
  simp [h1, h2]
theorem okC.ne {c x : UInt8} (h : okC c) (hx : x.toNat < 48 ∨ x.toNat = 58) : c ≠ x := by
  rintro rfl
  have h1 := h.1
  have h2 := h.2
  omega
theorem ok_edge {l : List UInt8} (h : ∀ x ∈ l, okC x) : edge l :=
  ⟨fun x hx => (h x (List.mem_of_head? hx)).blank, fun x hx => (h x (List.mem_of_getLast? hx)).blank⟩
/-- Operands behind the first. -/
def jn : List (List UInt8) → List UInt8
  | [] => []
  | g :: r => 44 :: 32 :: (g ++ jn r)
theorem jn_cons (g : List UInt8) (r : List (List UInt8)) : jn (g :: r) = 44 :: 32 :: (g ++ jn r) := rfl
theorem jn_ne (x : UInt8) (hx : x ≠ 44) (hx2 : x ≠ 32) : ∀ gs : List (List UInt8), (∀ g ∈ gs, ∀ y ∈ g, y ≠ x) → ∀ y ∈ jn gs, y ≠ x
  | [], _, y, hy => by simp [jn] at hy
  | g :: r, h, y, hy => by
    rw [jn_cons] at hy
    rcases List.mem_cons.1 hy with rfl | hy
    · exact fun e => hx e.symm
    rcases List.mem_cons.1 hy with rfl | hy
    · exact fun e => hx2 e.symm
    rcases List.mem_append.1 hy with hy | hy
    · exact h g List.mem_cons_self y hy
    · exact jn_ne x hx hx2 r (fun g hg => h g (List.mem_cons_of_mem _ hg)) y hy
theorem split_jn : ∀ (gs : List (List UInt8)) (s : List UInt8) (f : Nat), (∀ x ∈ s, x ≠ 44) → (∀ g ∈ gs, ∀ x ∈ g, okC x) → (s ++ jn gs).length ≤ f → splitN 44 f (s ++ jn gs) = s :: gs.map (fun g => 32 :: g)
  | [], s, f, hs, _, _ => by
    unfold jn
    rw [List.append_nil]
    cases f with
    | zero => rfl
    | succ f => rw [splitN, if_pos (findL_none 44 s hs)]; rfl
  | g :: r, s, f, hs, hg, hf => by
    have hl : (s ++ jn (g :: r)).length = s.length + 1 + (32 :: (g ++ jn r)).length := by
      rw [jn_cons]
      simp only [List.length_append, List.length_cons]
      omega
    obtain ⟨f, rfl⟩ : ∃ f', f = f' + 1 := ⟨f - 1, by omega⟩
    have hfi : findL 44 (s ++ jn (g :: r)) = s.length := findL_at 44 s _ hs
    have hd : (s ++ jn (g :: r)).drop (s.length + 1) = 32 :: g ++ jn r := by
      rw [jn_cons, List.drop_append, List.drop_eq_nil_of_le (by omega), Nat.add_sub_cancel_left]
      rfl
    have ht : (s ++ jn (g :: r)).take s.length = s := by rw [List.take_append_of_le_length (Nat.le_refl _), List.take_length]
    have hok := hg g List.mem_cons_self
    rw [splitN, hfi, if_neg (by omega), hd, ht, split_jn r (32 :: g) f (fun x hx => by
      rcases List.mem_cons.1 hx with rfl | hx
      · decide
      · exact (hok x hx).ne (.inl (by decide))) (fun g hg2 => hg g (List.mem_cons_of_mem _ hg2)) (by rw [List.cons_append]; omega)]
    rfl
end Go.Proofs.YtknonabeagbjeaaGreatDoor
namespace Go.Proofs.YtknonabeagbjeaaGreatDoor

theorem last_app (a b : List UInt8) (hb : b ≠ []) : (a ++ b).getLast? = b.getLast? := by
  rw [List.getLast?_append]
  cases h : b.getLast? with
  | none => exact absurd (List.getLast?_eq_none_iff.1 h) hb
  | some x => rfl
theorem last_jn : ∀ (gs : List (List UInt8)) (g : List UInt8), g ≠ [] → (∀ x ∈ g, okC x) → (∀ k ∈ gs, k ≠ [] ∧ ∀ x ∈ k, okC x) → ∀ x ∈ (g ++ jn gs).getLast?, okC x
  | [], g, _, hg, _, x, hx => by
    rw [show jn [] = [] from rfl, List.append_nil] at hx
    exact hg x (List.mem_of_getLast? hx)
  | k :: r, g, _, _, hk, x, hx => by
    obtain ⟨k1, k2⟩ := hk k List.mem_cons_self
    have hne : k ++ jn r ≠ [] := by
      intro e
      exact k1 (List.append_eq_nil_iff.1 e).1
    rw [jn_cons, show g ++ 44 :: 32 :: (k ++ jn r) = (g ++ [44, 32]) ++ (k ++ jn r) from by simp, last_app _ _ hne] at hx
    exact last_jn r k k1 k2 (fun y hy => hk y (List.mem_cons_of_mem _ hy)) x hx
/-- A word or a name. -/
structure Wd (o : List UInt8) : Prop where
  ne : o ≠ []
  h35 : ∀ x ∈ o, x ≠ 35
  h58 : ∀ x ∈ o, x ≠ 58
  bl : ∀ x ∈ o, blankB x = false
  w : wordB o = true
theorem args_edge {g : List UInt8} {gs : List (List UInt8)} (hg : ∀ k ∈ g :: gs, k ≠ [] ∧ ∀ x ∈ k, okC x) : g ++ jn gs ≠ [] ∧ edge (g ++ jn gs) := by
  obtain ⟨g1, g2⟩ := hg g List.mem_cons_self
  refine ⟨fun e => g1 (List.append_eq_nil_iff.1 e).1, fun x hx => ?_, fun x hx => (last_jn gs g g1 g2 (fun k hk => hg k (List.mem_cons_of_mem _ hk)) x hx).blank⟩
  cases g with
  | nil => exact absurd rfl g1
  | cons y r => exact (g2 x (by rw [List.cons_append, List.head?_cons] at hx; injection hx with hx; rw [← hx]; exact List.mem_cons_self)).blank
theorem args_split {g : List UInt8} {gs : List (List UInt8)} (hg : ∀ k ∈ g :: gs, k ≠ [] ∧ ∀ x ∈ k, okC x) : (splitP 44 (g ++ jn gs)).map trimP = g :: gs ∧ ((g :: gs).all fun a => !a.isEmpty) = true := by
  constructor
  · unfold splitP
    rw [split_jn gs g _ (fun x hx => ((hg g List.mem_cons_self).2 x hx).ne (.inl (by decide))) (fun k hk => (hg k (List.mem_cons_of_mem _ hk)).2) (Nat.le_refl _)]
    rw [List.map_cons, trimP_edge (ok_edge (hg g List.mem_cons_self).2), List.map_map]
    congr 1
    have : ∀ k ∈ gs, (trimP ∘ fun g => 32 :: g) k = k := fun k hk => trimP_lead (ok_edge (hg k (List.mem_cons_of_mem _ hk)).2) (hg k (List.mem_cons_of_mem _ hk)).1
    rw [List.map_congr_left this]
    exact List.map_id' gs
  · rw [List.all_eq_true]
    intro k hk
    have := (hg k hk).1
    cases k with
    | nil => exact absurd rfl this
    | cons => rfl
theorem restX_args {o g : List UInt8} {gs : List (List UInt8)} (ho : Wd o) (hg : ∀ k ∈ g :: gs, k ≠ [] ∧ ∀ x ∈ k, okC x) : restX (o ++ 32 :: (g ++ jn gs)) = some (o, g :: gs) := by
  obtain ⟨h1, h2⟩ := args_edge hg
  obtain ⟨h3, h4⟩ := args_split hg
  have hb := blankAt_at o (g ++ jn gs) ho.bl
  have hlt : o.length < (o ++ 32 :: (g ++ jn gs)).length := by rw [List.length_append, List.length_cons]; omega
  unfold restX
  rw [if_neg (fun e => ho.ne (List.append_eq_nil_iff.1 e).1)]
  simp only
  rw [hb, if_pos hlt, List.take_left, List.drop_left, trimP_lead h2 h1, ho.w, if_neg (by decide), if_neg h1, h3, h4, if_neg (by decide)]
theorem restX_word {o : List UInt8} (ho : Wd o) : restX o = some (o, []) := by
  unfold restX
  rw [if_neg ho.ne]
  simp only
  rw [blankAt_none o ho.bl, if_neg (Nat.lt_irrefl _), List.take_length, ho.w, if_neg (by decide), if_pos rfl]
theorem lineX_of {l u : List UInt8} (h35 : ∀ x ∈ l, x ≠ 35) (ht : trimP l = u) (h58 : ∀ x ∈ u, x ≠ 58) {x : List UInt8 × List (List UInt8)} (hr : restX u = some x) : lineX l = some ([], x) := by
  rw [lineX_rest]
  simp only
  rw [findL_none 35 l h35, List.take_length, ht, findL_none 58 u h58, if_neg (Nat.lt_irrefl _), hr]
  rfl
theorem body_ne {o g : List UInt8} {gs : List (List UInt8)} (ho : Wd o) (hg : ∀ k ∈ g :: gs, k ≠ [] ∧ ∀ x ∈ k, okC x) (c : UInt8) (hc : c = 35 ∨ c = 58) : ∀ x ∈ o ++ 32 :: (g ++ jn gs), x ≠ c := by
  intro x hx
  rcases List.mem_append.1 hx with hx | hx
  · rcases hc with rfl | rfl
    · exact ho.h35 x hx
    · exact ho.h58 x hx
  rcases List.mem_cons.1 hx with rfl | hx
  · rcases hc with rfl | rfl <;> decide
  have hcc : c.toNat < 48 ∨ c.toNat = 58 := by rcases hc with rfl | rfl <;> decide
  rcases List.mem_append.1 hx with hx | hx
  · exact ((hg g List.mem_cons_self).2 x hx).ne hcc
  · exact jn_ne c (by rcases hc with rfl | rfl <;> decide) (by rcases hc with rfl | rfl <;> decide) gs (fun k hk y hy => ((hg k (List.mem_cons_of_mem _ hk)).2 y hy).ne hcc) x hx
theorem body_edge {o g : List UInt8} {gs : List (List UInt8)} (ho : Wd o) (hg : ∀ k ∈ g :: gs, k ≠ [] ∧ ∀ x ∈ k, okC x) : edge (o ++ 32 :: (g ++ jn gs)) := by
  obtain ⟨h1, h2⟩ := args_edge hg
  refine ⟨fun x hx => ?_, ?_⟩
  · have hne := ho.ne
    cases o with
    | nil => exact absurd rfl hne
    | cons y r => exact ho.bl x (by rw [List.cons_append, List.head?_cons] at hx; injection hx with hx; rw [← hx]; exact List.mem_cons_self)
  · rw [show o ++ 32 :: (g ++ jn gs) = (o ++ [32]) ++ (g ++ jn gs) from by simp, last_app _ _ h1]
    exact h2.2
theorem word_edge {o : List UInt8} (ho : Wd o) : edge o := ⟨fun x hx => ho.bl x (List.mem_of_head? hx), fun x hx => ho.bl x (List.mem_of_getLast? hx)⟩
theorem lead_ne (c : UInt8) (hc : c ≠ 32) {u : List UInt8} (h : ∀ x ∈ u, x ≠ c) : ∀ x ∈ 32 :: 32 :: u, x ≠ c := by
  intro x hx
  rcases List.mem_cons.1 hx with rfl | hx
  · exact fun e => hc e.symm
  rcases List.mem_cons.1 hx with rfl | hx
  · exact fun e => hc e.symm
  exact h x hx
theorem lineX_args {o g : List UInt8} {gs : List (List UInt8)} (ho : Wd o) (hg : ∀ k ∈ g :: gs, k ≠ [] ∧ ∀ x ∈ k, okC x) : lineX (o ++ 32 :: (g ++ jn gs)) = some ([], o, g :: gs) :=
  lineX_of (body_ne ho hg 35 (.inl rfl)) (trimP_edge (body_edge ho hg)) (body_ne ho hg 58 (.inr rfl)) (restX_args ho hg)
theorem lineX_args2 {o g : List UInt8} {gs : List (List UInt8)} (ho : Wd o) (hg : ∀ k ∈ g :: gs, k ≠ [] ∧ ∀ x ∈ k, okC x) : lineX (32 :: 32 :: (o ++ 32 :: (g ++ jn gs))) = some ([], o, g :: gs) :=
  lineX_of (lead_ne 35 (by decide) (body_ne ho hg 35 (.inl rfl))) (trimP_lead2 (body_edge ho hg) (fun e => ho.ne (List.append_eq_nil_iff.1 e).1)) (body_ne ho hg 58 (.inr rfl)) (restX_args ho hg)
theorem lineX_word2 {o : List UInt8} (ho : Wd o) : lineX (32 :: 32 :: o) = some ([], o, []) :=
  lineX_of (lead_ne 35 (by decide) ho.h35) (trimP_lead2 (word_edge ho) ho.ne) ho.h58 (restX_word ho)
theorem lineX_label {b : List UInt8} (hok : ∀ x ∈ b, okC x) (hl : labelB b = true) : lineX (b ++ [58]) = some (b, [], []) := by
  have hne : b ≠ [] := by rintro rfl; exact absurd hl (by decide)
  have h35 : ∀ x ∈ b ++ [58], x ≠ 35 := by
    intro x hx
    rcases List.mem_append.1 hx with hx | hx
    · exact (hok x hx).ne (.inl (by decide))
    · rw [List.mem_singleton] at hx
      rw [hx]
      decide
  have he : edge (b ++ [58]) := by
    refine ⟨fun x hx => ?_, fun x hx => ?_⟩
    · cases b with
      | nil => exact absurd rfl hne
      | cons y r => exact (hok x (by rw [List.cons_append, List.head?_cons] at hx; injection hx with hx; rw [← hx]; exact List.mem_cons_self)).blank
    · rw [last_app _ _ (by simp)] at hx
      injection hx with hx
      rw [← hx]
      decide
  have hd : (b ++ [58]).drop (b.length + 1) = [] := List.drop_eq_nil_of_le (by rw [List.length_append]; exact Nat.le_refl _)
  rw [lineX_rest]
  simp only
  rw [findL_none 35 _ h35, List.take_length, trimP_edge he, findL_at 58 b [] (fun x hx => (hok x hx).ne (.inr (by decide))), if_pos (by simp), List.take_left, hl, if_neg (by decide), hd]
  rfl
theorem lineX_nil : lineX [] = some ([], [], []) := by decide
end Go.Proofs.YtknonabeagbjeaaGreatDoor
namespace Go.Proofs.YtknonabeagbjeaaGreatDoor

theorem dec_len (n : Nat) (h : n < 4294967296) : (Lib.decDigits n).length ≤ 10 := by
  by_cases hl : 10 < (Lib.decDigits n).length
  · have := val_long _ (dec_bad n) (dec_isD n) hl
    rw [val_dec] at this
    omega
  · omega
theorem dec_ok (n : Nat) : ∀ x ∈ Lib.decDigits n, okC x := by
  intro x hx
  have h := dec_digs n x hx
  unfold isDig at h
  have h2 := of_decide_eq_true h
  exact ⟨h2.1, by omega⟩
theorem parse_decN (n : Nat) (h : n < 4294967296) : parseW (Lib.decDigits n) = (UInt32.ofNat n, 0) := by
  have h2 := parse_dec (UInt32.ofNat n)
  rw [UInt32.toNat_ofNat', Nat.mod_eq_of_lt (show n < 2 ^ 32 by omega)] at h2
  exact h2
theorem ofNat_back (n : Nat) (h : n < 4294967296) : (UInt32.ofNat n).toNat = n := by
  rw [UInt32.toNat_ofNat', Nat.mod_eq_of_lt (show n < 2 ^ 32 by omega)]
theorem dec_first (n : Nat) : ∃ c r, Lib.decDigits n = c :: r ∧ 48 ≤ c.toNat ∧ c.toNat ≤ 57 := by
  have h1 := (dec_head n).1
  cases h : Lib.decDigits n with
  | nil => exact absurd h h1
  | cons c r =>
    refine ⟨c, r, rfl, ?_⟩
    have h2 := dec_digs n c (by rw [h]; exact List.mem_cons_self)
    unfold isDig at h2
    exact of_decide_eq_true h2
theorem opnd_reg (n : Nat) (h : n ≤ 15) : opndX (114 :: Lib.decDigits n) = (1, n, false) := by
  unfold opndX
  rw [if_pos, show (114 :: Lib.decDigits n).drop 1 = Lib.decDigits n from rfl, parse_decN n (by omega), ofNat_back n (by omega)]
  refine ⟨rfl, ?_, ?_⟩
  · rw [show (114 :: Lib.decDigits n).drop 1 = Lib.decDigits n from rfl, parse_decN n (by omega)]
  · rw [show (114 :: Lib.decDigits n).drop 1 = Lib.decDigits n from rfl, parse_decN n (by omega), ofNat_back n (by omega)]
    exact h
theorem opnd_num (n : Nat) (h : n < 4294967296) : opndX (Lib.decDigits n) = (2, n, false) := by
  obtain ⟨c, r, e, h1, h2⟩ := dec_first n
  unfold opndX
  rw [if_neg (fun hx => by
    have h3 := hx.1
    rw [e, List.head?_cons] at h3
    injection h3 with h3
    rw [h3] at h2
    exact absurd h2 (by decide)), if_pos (by rw [parse_decN n h]), parse_decN n h, ofNat_back n h]
theorem dec_name (n : Nat) : (Lib.decDigits n).all nameB = true := by
  rw [List.all_eq_true]
  intro x hx
  have h := List.all_eq_true.1 (dec_isD n) x hx
  unfold nameB
  rw [h]
  simp
theorem label_ok (n : Nat) (h : n < 4294967296) : labelB (76 :: Lib.decDigits n) = true := by
  have hl := dec_len n h
  show (letterB 76 && ((Lib.decDigits n).all nameB && decide ((Lib.decDigits n).length < 20))) = true
  rw [dec_name, decide_eq_true (show (Lib.decDigits n).length < 20 by omega)]
  decide
theorem parse_lab (n : Nat) : (parseW (76 :: Lib.decDigits n)).2 = 3 := by
  unfold parseW
  rw [if_pos (.inr (by rw [List.all_cons]; rfl))]
theorem opnd_lab (n : Nat) (h : n < 4294967296) : opndX (76 :: Lib.decDigits n) = (3, 0, false) := by
  obtain ⟨c, r, e, h1, h2⟩ := dec_first n
  unfold opndX
  rw [if_neg (fun hx => absurd hx.1 (by rw [List.head?_cons]; decide)), if_neg (by rw [parse_lab]; decide), if_neg (by rw [parse_lab]; decide), if_neg (by rw [e, List.take_succ_cons]; intro hx; injection hx with hx; exact absurd hx (by decide))]
  have hc : charX (76 :: Lib.decDigits n) = none := by
    unfold charX
    split
    · rename_i a b c' heq
      injection heq with ha _
      rw [if_neg]
      rintro ⟨hx, _⟩
      rw [← ha] at hx
      exact absurd hx (by decide)
    · rfl
  rw [hc]
  simp only
  rw [if_pos (label_ok n h)]
/-- An operand as it stands in a listing. -/
def fT (p : ByteArray × Nat) : List UInt8 := p.1.data.toList ++ Lib.decDigits p.2
theorem tail_jn : ∀ l : List (ByteArray × Nat), tailL [44, 32] l = jn (l.map fT)
  | [] => rfl
  | (p, n) :: r => by
    rw [tailL, List.map_cons, jn_cons, tail_jn r]
    unfold fT
    simp
theorem tail_first (p : ByteArray × Nat) (r : List (ByteArray × Nat)) : tailL [32] (p :: r) = 32 :: (fT p ++ jn (r.map fT)) := by
  obtain ⟨a, n⟩ := p
  rw [tailL, tail_jn]
  unfold fT
  simp
theorem fT_ok {p : ByteArray × Nat} (h : okPre p.1) : fT p ≠ [] ∧ ∀ x ∈ fT p, okC x := by
  unfold fT
  refine ⟨fun e => (dec_head p.2).1 (List.append_eq_nil_iff.1 e).2, fun x hx => ?_⟩
  rcases List.mem_append.1 hx with hx | hx
  · rcases h with h | h | h
    · rw [h] at hx
      rw [show (rS : ByteArray).data.toList = [114] from rfl, List.mem_singleton] at hx
      rw [hx]
      exact ⟨by decide, by decide⟩
    · rw [h] at hx
      rw [show (emS : ByteArray).data.toList = [] from rfl] at hx
      exact absurd hx (by simp)
    · rw [h] at hx
      rw [show (lS : ByteArray).data.toList = [76] from rfl, List.mem_singleton] at hx
      rw [hx]
      exact ⟨by decide, by decide⟩
  · exact dec_ok p.2 x hx
def wdB (o : List UInt8) : Bool := !o.isEmpty && (o.all (fun x => decide (x ≠ 35) && (decide (x ≠ 58) && !blankB x)) && wordB o)
theorem wd_of {o : List UInt8} (h : wdB o = true) : Wd o := by
  unfold wdB at h
  simp only [Bool.and_eq_true] at h
  obtain ⟨h1, h2, h3⟩ := h
  have hx : ∀ x ∈ o, x ≠ 35 ∧ x ≠ 58 ∧ blankB x = false := by
    intro x hx
    have := List.all_eq_true.1 h2 x hx
    simpa using this
  exact ⟨by rintro rfl; exact absurd h1 (by decide), fun x m => (hx x m).1, fun x m => (hx x m).2.1, fun x m => (hx x m).2.2, h3⟩
theorem wd_name : ∀ k, k < 28 → 1 ≤ k → wdB (nameI ((k : Nat) : Int)) = true := by decide
theorem wd_word : Wd wordL := wd_of (by decide)
theorem wd_data : Wd dataL := wd_of (by decide)
/-- The lines of a listing, taken apart. -/
theorem lineX_hdr (d : Nat) : lineX (hdrL d) = some ([], dataL, [Lib.decDigits d]) := by
  have h := lineX_args (g := Lib.decDigits d) (gs := []) wd_data (fun k hk => by rw [List.mem_singleton] at hk; rw [hk]; exact ⟨(dec_head d).1, dec_ok d⟩)
  rw [show jn [] = [] from rfl, List.append_nil] at h
  exact h
theorem lineX_lbl (i : Nat) (h : i < 4294967296) : lineX (lblL i) = some (76 :: Lib.decDigits i, [], []) := by
  refine lineX_label (b := 76 :: Lib.decDigits i) (fun x hx => ?_) (label_ok i h)
  rcases List.mem_cons.1 hx with rfl | hx
  · exact ⟨by decide, by decide⟩
  · exact dec_ok i x hx
theorem lineX_num (x : UInt32) (n : Nat) (h : decB x = false) : lineX ([32, 32] ++ itemL x n) = some ([], wordL, [Lib.decDigits x.toNat]) := by
  have h2 := lineX_args2 (g := Lib.decDigits x.toNat) (gs := []) wd_word (fun k hk => by rw [List.mem_singleton] at hk; rw [hk]; exact ⟨(dec_head _).1, dec_ok _⟩)
  rw [show jn [] = [] from rfl, List.append_nil] at h2
  unfold itemL
  rw [if_neg (by rw [h]; decide)]
  exact h2
theorem lineX_ins (x : UInt32) (n : Nat) (h : decB x = true) : lineX ([32, 32] ++ itemL x n) = some ([], nameI (opD x), (fldJ x n).map fT) := by
  obtain ⟨k, k1, k2, e⟩ := dec_op h
  have hw : Wd (nameI (opD x)) := by rw [e]; exact wd_of (wd_name k k1 k2)
  have hok := fldJ_pre x n
  unfold itemL
  rw [if_pos h]
  cases hf : fldJ x n with
  | nil => rw [show tailL [32] [] = [] from rfl, List.append_nil]; exact lineX_word2 hw
  | cons p r =>
    rw [hf] at hok
    rw [tail_first, List.map_cons]
    refine lineX_args2 hw (fun k hk => ?_)
    rcases List.mem_cons.1 hk with rfl | hk
    · exact fT_ok (hok p List.mem_cons_self)
    · obtain ⟨q, hq, rfl⟩ := List.mem_map.1 hk
      exact fT_ok (hok q (List.mem_cons_of_mem _ hq))
end Go.Proofs.YtknonabeagbjeaaGreatDoor
namespace Go.Proofs.YtknonabeagbjeaaGreatDoor

/-- Does the word jump to a place in the code? -/
def jr (n : Nat) (x : UInt32) : Bool := jmpB x && decide (cD x < (n : Int))
/-- The word as it is ahead of its label's place. -/
def clr (n : Nat) (x : UInt32) : UInt32 := if jr n x = true then UInt32.ofNat (encI (opD x) (aD x) (bD x) 0).toNat else x
theorem jmp_shC : ∀ k, k < 28 → 18 ≤ k → k ≤ 21 → shC ((k : Nat) : Int) = 1 := by decide
theorem jr_shC {n : Nat} {x : UInt32} (h : jr n x = true) : shC (opD x) = 1 ∧ decB x = true := by
  unfold jr jmpB at h
  simp only [Bool.and_eq_true, decide_eq_true_iff] at h
  obtain ⟨⟨h1, h2⟩, -⟩ := h
  obtain ⟨k, k1, k2, e⟩ := dec_op h1
  rw [e] at h2 ⊢
  exact ⟨jmp_shC k k1 (by omega) (by omega), h1⟩
theorem regX_reg (n : Nat) (h : n ≤ 15) : regX (fT (rS, n)) = some n := by
  show regX (114 :: Lib.decDigits n) = _
  unfold regX
  simp only
  rw [opnd_reg n h, if_pos rfl]
theorem withX_num (s : Asm) (m op a b : Int) (c : Nat) (h : c ≤ 65535) : withX s m op a b (fT (emS, c)) = encX s op a b c := by
  show withX s m op a b (Lib.decDigits c) = _
  unfold withX
  simp only
  rw [opnd_num c (by omega)]
  simp only
  rw [if_neg (by decide), if_neg (by decide), if_neg (by rintro (h | h); exact absurd h (by decide); omega)]
theorem withX_lab (s : Asm) (m op a b : Int) (c : Nat) (h : c ≤ 65535) : withX s m op a b (fT (lS, c)) = encX { s with us := s.us ++ [(m, s.code.length, 76 :: Lib.decDigits c)] } op a b 0 := by
  show withX s m op a b (76 :: Lib.decDigits c) = _
  unfold withX
  simp only
  rw [opnd_lab c (by omega)]
  simp only
  rw [if_pos trivial]
theorem dec_parts {x : UInt32} : (aD x).toNat ≤ 15 ∧ (bD x).toNat ≤ 15 ∧ (cD x).toNat ≤ 65535 ∧ (((aD x).toNat : Nat) : Int) = aD x ∧ (((bD x).toNat : Nat) : Int) = bD x ∧ (((cD x).toNat : Nat) : Int) = cD x := by
  unfold aD bD cD
  omega
theorem insX_dec (s : Asm) (m : Int) (x : UInt32) (n : Nat) (hd : decB x = true) :
    insX s m (opD x) ((fldJ x n).map fT) = if jr n x = true then encX { s with us := s.us ++ [(m, s.code.length, 76 :: Lib.decDigits (cD x).toNat)] } (opD x) (aD x) (bD x) 0 else encX s (opD x) (aD x) (bD x) (cD x) := by
  obtain ⟨k, k1, k2, e⟩ := dec_op hd
  have hco := shape_all k k1 k2
  rw [← e] at hco
  obtain ⟨r1, r2, r3⟩ := right_parts (show rightI (opD x) (aD x) (bD x) (cD x) = true from hd)
  obtain ⟨a1, b1, c1, a2, b2, c2⟩ := @dec_parts x
  have hj : shC (opD x) ≠ 1 → jr n x = false := by
    intro h
    cases hj : jr n x with
    | false => rfl
    | true => exact absurd (jr_shC hj).1 h
  have hpre : (if jmpB x && decide (cD x < (n : Int)) then lS else emS) = if jr n x = true then lS else emS := rfl
  have hlast : ∀ a b : Int, withX s m (opD x) a b (fT (if jr n x = true then lS else emS, (cD x).toNat)) = if jr n x = true then encX { s with us := s.us ++ [(m, s.code.length, 76 :: Lib.decDigits (cD x).toNat)] } (opD x) a b 0 else encX s (opD x) a b (cD x) := by
    intro a b
    by_cases hq : jr n x = true
    · rw [if_pos hq, if_pos hq, withX_lab _ _ _ _ _ _ c1]
    · rw [if_neg hq, if_neg hq, withX_num _ _ _ _ _ _ c1, c2]
  unfold fldJ
  rw [hpre]
  rcases combo_of hco with ⟨hA, hB, hC⟩ | ⟨hA, hB, hC⟩ | ⟨hA, hB, hC⟩ | ⟨hA, hB, hC⟩ | ⟨hA, hB, hC⟩ | ⟨hA, hB, hC⟩ | ⟨hA, hB, hC⟩
  · rw [hA, hB, hC, if_pos rfl, if_neg (by decide), if_pos rfl]
    show insX s m (opD x) [fT (rS, (aD x).toNat), fT (_, (cD x).toNat)] = _
    rw [insX_ac hA hB hC, regX_reg _ a1]
    simp only
    rw [hlast, a2, r2 hB]
  · rw [hA, hB, hC, if_pos rfl, if_pos rfl, if_neg (by decide), if_neg (by decide)]
    show insX s m (opD x) [fT (rS, (aD x).toNat), fT (rS, (bD x).toNat)] = _
    rw [insX_ab hA hB hC, regX_reg _ a1, regX_reg _ b1, hj (by rw [hC]; decide)]
    simp only
    rw [if_neg (by decide), a2, b2, r3 hC]
  · rw [hA, hB, hC, if_pos rfl, if_pos rfl, if_neg (by decide), if_pos rfl]
    show insX s m (opD x) [fT (rS, (aD x).toNat), fT (rS, (bD x).toNat), fT (rS, (cD x).toNat)] = _
    have c3 : (cD x).toNat ≤ 15 := by
      have h : rightI (opD x) (aD x) (bD x) (cD x) = true := hd
      unfold rightI withinI at h
      rw [hC] at h
      simp at h
      omega
    rw [insX_abr hA hB hC, regX_reg _ a1, regX_reg _ b1, regX_reg _ c3, hj (by rw [hC]; decide)]
    simp only
    rw [if_neg (by decide), a2, b2, c2]
  · rw [hA, hB, hC, if_pos rfl, if_pos rfl, if_pos rfl]
    show insX s m (opD x) [fT (rS, (aD x).toNat), fT (rS, (bD x).toNat), fT (_, (cD x).toNat)] = _
    rw [insX_abc hA hB hC, regX_reg _ a1, regX_reg _ b1]
    simp only
    rw [hlast, a2, b2]
  · rw [hA, hB, hC, if_neg (by decide), if_neg (by decide), if_pos rfl]
    show insX s m (opD x) [fT (_, (cD x).toNat)] = _
    rw [insX_c hA hB hC, hlast, r1 hA, r2 hB]
  · rw [hA, hB, hC, if_pos rfl, if_neg (by decide), if_neg (by decide), if_neg (by decide)]
    show insX s m (opD x) [fT (rS, (aD x).toNat)] = _
    rw [insX_a hA hB hC, regX_reg _ a1, hj (by rw [hC]; decide)]
    simp only
    rw [if_neg (by decide), a2, r2 hB, r3 hC]
  · rw [hA, hB, hC, if_neg (by decide), if_neg (by decide), if_neg (by decide), if_neg (by decide)]
    show insX s m (opD x) [] = _
    rw [insX_no hA hB hC, hj (by rw [hC]; decide), if_neg (by decide), r1 hA, r2 hB, r3 hC]
end Go.Proofs.YtknonabeagbjeaaGreatDoor
namespace Go.Proofs.YtknonabeagbjeaaGreatDoor

theorem addX_ok (s : Asm) (x : UInt32) (h : s.code.length < 16384) : addX s x = some { s with code := s.code ++ [x] } := by
  unfold addX
  rw [if_neg (by omega)]
theorem encX_dec (s : Asm) (x : UInt32) (h : decB x = true) : encX s (opD x) (aD x) (bD x) (cD x) = addX s x := by
  unfold encX
  rw [if_pos (show rightI (opD x) (aD x) (bD x) (cD x) = true from h), dec_enc, Int.toNat_natCast]
  congr 1
  exact UInt32.toNat_inj.1 (by rw [UInt32.toNat_ofNat', Nat.mod_eq_of_lt (show x.toNat < 2 ^ 32 from x.toNat_lt)])
theorem right_zero {n : Nat} {x : UInt32} (h : jr n x = true) : rightI (opD x) (aD x) (bD x) 0 = true := by
  obtain ⟨h1, h2⟩ := jr_shC h
  have h3 : rightI (opD x) (aD x) (bD x) (cD x) = true := h2
  unfold rightI withinI at h3 ⊢
  rw [h1] at h3 ⊢
  simp only [Bool.and_eq_true] at h3 ⊢
  exact ⟨h3.1, h3.2.1, h3.2.2.1, by decide⟩
theorem encX_clr (s : Asm) {n : Nat} {x : UInt32} (h : jr n x = true) : encX s (opD x) (aD x) (bD x) 0 = addX s (clr n x) := by
  unfold encX clr
  rw [if_pos (right_zero h), if_pos h]
theorem lineS_nolab {s : Asm} {m : Int} {l o : List UInt8} {gs : List (List UInt8)} (h : lineX l = some ([], o, gs)) : lineS s m l = if o = [] then some s else if o = wordL ∨ o = dataL then dirX s o gs else if opI o = 0 then none else insX s m (opI o) gs := by
  unfold lineS
  rw [h]
  rfl
theorem line_lbl (s : Asm) (m : Int) (i : Nat) (hi : i < 4294967296) (h : lookP (76 :: Lib.decDigits i) s.pl = none) : lineS s m (lblL i) = some { s with pl := (76 :: Lib.decDigits i, s.code.length) :: s.pl } := by
  unfold lineS
  rw [lineX_lbl i hi]
  simp only
  rw [h, if_neg (fun h => absurd h.2 (by decide)), if_pos trivial, if_neg (List.cons_ne_nil _ _)]
theorem line_nil (s : Asm) (m : Int) : lineS s m [] = some s := by
  rw [lineS_nolab lineX_nil, if_pos rfl]
theorem line_hdr (m : Int) (d : Nat) (hd : d ≤ 32768) : lineS asm0 m (hdrL d) = some { asm0 with dat := d, has := true } := by
  rw [lineS_nolab (lineX_hdr d), if_neg (by decide), if_pos (.inr rfl)]
  unfold dirX
  simp only
  rw [opnd_num d (by omega)]
  simp only
  rw [if_neg (fun h => absurd h.2 (by decide)), if_neg (by decide), if_neg (by decide), if_neg (by rintro (h | h); exact absurd h (by decide); omega)]
theorem line_num (s : Asm) (m : Int) (x : UInt32) (n : Nat) (hx : decB x = false) (h : s.code.length < 16384) : lineS s m ([32, 32] ++ itemL x n) = some { s with code := s.code ++ [x] } := by
  have hx2 := x.toNat_lt
  rw [lineS_nolab (lineX_num x n hx), if_neg (by decide), if_pos (.inl rfl)]
  unfold dirX
  simp only
  rw [opnd_num x.toNat hx2]
  simp only
  rw [if_neg (fun h => absurd h.1 (by decide)), if_neg (by decide), if_pos trivial, if_neg (by decide), addX_ok s _ h]
  congr 4
  exact UInt32.toNat_inj.1 (by rw [UInt32.toNat_ofNat', Nat.mod_eq_of_lt (show x.toNat < 2 ^ 32 from x.toNat_lt)])
theorem name_dots : ∀ k, k < 28 → 1 ≤ k → nameI ((k : Nat) : Int) ≠ wordL ∧ nameI ((k : Nat) : Int) ≠ dataL := by decide
theorem line_ins (s : Asm) (m : Int) (x : UInt32) (n : Nat) (hx : decB x = true) (h : s.code.length < 16384) :
    lineS s m ([32, 32] ++ itemL x n) = some (if jr n x = true then { s with us := s.us ++ [(m, s.code.length, 76 :: Lib.decDigits (cD x).toNat)], code := s.code ++ [clr n x] } else { s with code := s.code ++ [x] }) := by
  obtain ⟨k, k1, k2, e⟩ := dec_op hx
  have hop : isOp (opD x) := (right_bounds (show rightI (opD x) (aD x) (bD x) (cD x) = true from hx)).1
  have h1 := name_ne k k1 k2
  have h2 := name_dots k k1 k2
  rw [← e] at h1 h2
  rw [lineS_nolab (lineX_ins x n hx), if_neg h1, if_neg (by rintro (h | h); exact h2.1 h; exact h2.2 h), name_back hop, if_neg (by rw [e]; omega), insX_dec s m x n hx]
  by_cases hj : jr n x = true
  · rw [if_pos hj, if_pos hj, encX_clr _ hj, addX_ok _ _ (by exact h)]
  · rw [if_neg hj, if_neg hj, encX_dec s x hx, addX_ok _ _ h]
theorem clr_no {n : Nat} {x : UInt32} (h : jr n x = false) : clr n x = x := by
  unfold clr
  rw [if_neg (by rw [h]; decide)]
theorem jr_dec {n : Nat} {x : UInt32} (h : decB x = false) : jr n x = false := by
  cases hj : jr n x with
  | false => rfl
  | true => rw [(jr_shC hj).2] at h; cases h
/-- A word's line. -/
theorem line_item (s : Asm) (m : Int) (x : UInt32) (n : Nat) (h : s.code.length < 16384) :
    lineS s m ([32, 32] ++ itemL x n) = some { s with us := (if jr n x = true then s.us ++ [(m, s.code.length, 76 :: Lib.decDigits (cD x).toNat)] else s.us), code := s.code ++ [clr n x] } := by
  cases hx : decB x with
  | false => rw [line_num s m x n hx h, clr_no (jr_dec hx), if_neg (by rw [jr_dec hx]; decide)]
  | true =>
    rw [line_ins s m x n hx h]
    by_cases hj : jr n x = true
    · rw [if_pos hj, if_pos hj]
    · rw [if_neg hj, if_neg hj, clr_no (by simpa using hj)]
/-- The lines of a text. -/
theorem split_lfs : ∀ (ls : List (List UInt8)) (f : Nat), (∀ l ∈ ls, ∀ x ∈ l, x ≠ 10) → (lfs ls).length ≤ f → splitN 10 f (lfs ls) = ls ++ [[]]
  | [], f, _, _ => by
    cases f with
    | zero => rfl
    | succ f => rfl
  | l :: r, f, h, hf => by
    have hl := h l List.mem_cons_self
    rw [lfs_cons] at hf ⊢
    have hlen : (l ++ ([10] ++ lfs r)).length = l.length + 1 + (lfs r).length := by
      simp only [List.length_append, List.length_cons, List.length_nil]
      omega
    obtain ⟨f, rfl⟩ : ∃ f', f = f' + 1 := ⟨f - 1, by omega⟩
    have hfi : findL 10 (l ++ ([10] ++ lfs r)) = l.length := findL_at 10 l _ hl
    have hd : (l ++ ([10] ++ lfs r)).drop (l.length + 1) = lfs r := by
      rw [List.drop_append, List.drop_eq_nil_of_le (by omega), Nat.add_sub_cancel_left]
      rfl
    rw [splitN, hfi, if_neg (by omega), hd, List.take_left, split_lfs r f (fun k hk => h k (List.mem_cons_of_mem _ hk)) (by omega)]
    rfl
end Go.Proofs.YtknonabeagbjeaaGreatDoor
