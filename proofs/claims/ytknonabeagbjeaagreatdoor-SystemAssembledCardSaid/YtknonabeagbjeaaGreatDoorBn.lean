/- Layer 12: a line, read: whole; what every step keeps. -/
import Derived.Test.YtknonabeagbjeaaGreatDoorBm
namespace Go.Proofs.YtknonabeagbjeaaGreatDoor
open Go.RowKit Go.Maps

theorem opI_range (l : List UInt8) : opI l = 0 ∨ (1 ≤ opI l ∧ opI l < 28) := by
  unfold opI
  cases h : (List.range 27).find? (fun k => decide (nameI ((k + 1 : Nat) : Int) = l)) with
  | none => exact .inl rfl
  | some k =>
    have h1 := List.mem_range.1 (List.mem_of_find?_eq_some h)
    simp only
    omega
theorem restX_le {u o : List UInt8} {gs : List (List UInt8)} (h : restX u = some (o, gs)) : ∀ a ∈ gs, a.length ≤ u.length := by
  unfold restX at h
  simp only at h
  split at h
  · injection h with h
    injection h with _ h
    subst h
    simp
  split at h
  · cases h
  have hr : (if blankAt u < u.length then trimP (u.drop (blankAt u)) else []).length ≤ u.length := by
    split
    · have := trimP_len (u.drop (blankAt u))
      rw [List.length_drop] at this
      omega
    · simp
  generalize (if blankAt u < u.length then trimP (u.drop (blankAt u)) else []) = r at h hr
  split at h
  · injection h with h
    injection h with _ h
    subst h
    simp
  split at h
  · cases h
  · injection h with h
    injection h with _ h
    subst h
    intro a ha
    obtain ⟨x, hx, rfl⟩ := List.mem_map.1 ha
    have := trimP_len x
    have := splitN_mem 44 _ _ x hx
    omega
theorem lineX_le {l lb o : List UInt8} {gs : List (List UInt8)} (h : lineX l = some (lb, o, gs)) : lb.length ≤ l.length ∧ ∀ a ∈ gs, a.length ≤ l.length := by
  rw [lineX_rest] at h
  simp only at h
  have h1 := trimP_len (l.take (findL 35 l))
  rw [List.length_take] at h1
  generalize trimP (l.take (findL 35 l)) = s at h h1
  split at h
  · split at h
    · cases h
    · cases hr : restX (trimP (s.drop (findL 58 s + 1))) with
      | none => rw [hr] at h; cases h
      | some x =>
        obtain ⟨o', gs'⟩ := x
        rw [hr] at h
        simp only [Option.map_some, Option.some.injEq, Prod.mk.injEq] at h
        obtain ⟨rfl, rfl, rfl⟩ := h
        refine ⟨by rw [List.length_take]; omega, fun a ha => ?_⟩
        have h2 := restX_le hr a ha
        have h3 := trimP_len (s.drop (findL 58 s + 1))
        rw [List.length_drop] at h3
        omega
  · cases hr : restX s with
    | none => rw [hr] at h; cases h
    | some x =>
      obtain ⟨o', gs'⟩ := x
      rw [hr] at h
      simp only [Option.map_some, Option.some.injEq, Prod.mk.injEq] at h
      obtain ⟨rfl, rfl, rfl⟩ := h
      refine ⟨by simp, fun a ha => ?_⟩
      have h2 := restX_le hr a ha
      omega

theorem asm_line (q g c cu : Nat) (s : Asm) (A U : Option Addr) (n : Int) (l : ByteArray) (W : World) (B : Nat) (hB : B ≤ q) (hBg : B ≤ g) (hN : 4 < B) (hT : Small W) (hM : Mx W) (hl : l.size ≤ 100000) (hc : s.code.length ≤ 16384) (hp : s.pl.length ≤ 1000000) (hu : s.us.length ≤ 1000000) (h : Rs q g s A c U cu W) :
    Calls Tryz.prog 9 #[.pointer (some ⟨q, 0, none⟩), .int .i64 n, .string l] W (StepP B q g (lineS s n l.data.toList) W) := by
  cases hX : lineX l.data.toList with
  | none => exact line_bad q g c cu s A U n l W B hB hM hl h hX _ (by unfold lineS; rw [hX])
  | some x =>
    obtain ⟨lb, o, gs⟩ := x
    obtain ⟨z1, z2⟩ := lineX_le hX
    rw [← size_len] at z1 z2
    have hlz : lb.length ≤ 1000000 := by omega
    have hgs : ∀ a ∈ gs, a.length ≤ 1000000 := fun a ha => by have := z2 a ha; omega
    have e : ∀ X, (if lb ≠ [] ∧ (lookP lb s.pl).isSome = true then none else
      if o = [] then some (if lb = [] then s else { s with pl := (lb, s.code.length) :: s.pl }) else
      if o = wordL ∨ o = dataL then dirX (if lb = [] then s else { s with pl := (lb, s.code.length) :: s.pl }) o gs else
      if opI o = 0 then none else insX (if lb = [] then s else { s with pl := (lb, s.code.length) :: s.pl }) n (opI o) gs) = X → lineS s n l.data.toList = X := by
      intro X h
      unfold lineS
      rw [hX]
      exact h
    by_cases h1 : lb = []
    · have e1 : ∀ X, (if o = [] then some s else if o = wordL ∨ o = dataL then dirX s o gs else if opI o = 0 then none else insX s n (opI o) gs) = X → lineS s n l.data.toList = X := by
        intro X h
        refine e X ?_
        rw [if_neg (fun h => h.1 h1), if_pos h1]
        exact h
      by_cases h3 : o = []
      · exact line_nolab_empty q g c cu s A U n l W B hB hM hl h lb o gs hX h1 h3 _ (e1 _ (by rw [if_pos h3]))
      by_cases h4 : o = wordL
      · exact line_nolab_word q g c cu s A U n l W B hB hT hN hM hl h lb o gs hX hgs h1 h4 _ (e1 _ (by rw [if_neg h3, if_pos (.inl h4)]))
      by_cases h5 : o = dataL
      · exact line_nolab_data q g c cu s A U n l W B hB hT hN hM hl h lb o gs hX hgs h1 h5 _ (e1 _ (by rw [if_neg h3, if_pos (.inr h5)]))
      have h45 : ¬ (o = wordL ∨ o = dataL) := by rintro (h | h); exact h4 h; exact h5 h
      by_cases h6 : opI o = 0
      · exact line_nolab_noop q g c cu s A U n l W B hB hM hl h lb o gs hX h1 h3 h4 h5 h6 _ (e1 _ (by rw [if_neg h3, if_neg h45, if_pos h6]))
      · obtain ⟨h7, h8⟩ := (opI_range o).resolve_left h6
        exact line_nolab_op q g c cu s A U n l W B hB hT hN hu hM hl h lb o gs hX hgs h1 h3 h4 h5 _ rfl h7 h8 _ (e1 _ (by rw [if_neg h3, if_neg h45, if_neg h6]))
    · cases h2 : (lookP lb s.pl).isSome with
      | true => exact line_dup q g c cu s A U n l W B hB hM hl h lb o gs hX h1 hlz h2 _ (e _ (by rw [if_pos ⟨h1, h2⟩]))
      | false =>
        have e1 : ∀ X, (if o = [] then some { s with pl := (lb, s.code.length) :: s.pl } else if o = wordL ∨ o = dataL then dirX { s with pl := (lb, s.code.length) :: s.pl } o gs else if opI o = 0 then none else insX { s with pl := (lb, s.code.length) :: s.pl } n (opI o) gs) = X → lineS s n l.data.toList = X := by
          intro X h
          refine e X ?_
          rw [if_neg (fun h => by rw [h2] at h; exact absurd h.2 (by decide)), if_neg h1]
          exact h
        by_cases h3 : o = []
        · exact line_lab_empty q g c cu s A U n l W B hB hBg hc hp hM hl h lb o gs hX h1 hlz h2 h3 _ (e1 _ (by rw [if_pos h3]))
        by_cases h4 : o = wordL
        · exact line_lab_word q g c cu s A U n l W B hB hBg hc hp hT hN hM hl h lb o gs hX hgs h1 hlz h2 h4 _ (e1 _ (by rw [if_neg h3, if_pos (.inl h4)]))
        by_cases h5 : o = dataL
        · exact line_lab_data q g c cu s A U n l W B hB hBg hc hp hT hN hM hl h lb o gs hX hgs h1 hlz h2 h5 _ (e1 _ (by rw [if_neg h3, if_pos (.inr h5)]))
        have h45 : ¬ (o = wordL ∨ o = dataL) := by rintro (h | h); exact h4 h; exact h5 h
        by_cases h6 : opI o = 0
        · exact line_lab_noop q g c cu s A U n l W B hB hBg hc hp hM hl h lb o gs hX h1 hlz h2 h3 h4 h5 h6 _ (e1 _ (by rw [if_neg h3, if_neg h45, if_pos h6]))
        · obtain ⟨h7, h8⟩ := (opI_range o).resolve_left h6
          exact line_lab_op q g c cu s A U n l W B hB hBg hc hp hT hN hu hM hl h lb o gs hX hgs h1 hlz h2 h3 h4 h5 _ rfl h7 h8 _ (e1 _ (by rw [if_neg h3, if_neg h45, if_neg h6]))

/-- What every step keeps. -/
structure Inv (n k : Nat) (s : Asm) : Prop where
  c : s.code.length ≤ 16384
  p : s.pl.length ≤ n
  u : s.us.length ≤ k
  at_ : ∀ u ∈ s.us, u.2.1 < s.code.length
  pl : ∀ p ∈ s.pl, p.2 ≤ s.code.length
  d : s.dat ≤ 32768
  l : ∀ u ∈ s.us, u.2.2.length ≤ 1000000
theorem Inv.zero : Inv 0 0 asm0 := ⟨by decide, by decide, by decide, by simp [asm0], by simp [asm0], by decide, by simp [asm0]⟩
theorem Inv.more {n k n' k' : Nat} {s : Asm} (h : Inv n k s) (hn : n ≤ n') (hk : k ≤ k') : Inv n' k' s := ⟨h.c, Nat.le_trans h.p hn, Nat.le_trans h.u hk, h.at_, h.pl, h.d, h.l⟩
theorem Inv.add {n k : Nat} {s s' : Asm} {x : UInt32} (h : Inv n k s) (hx : addX s x = some s') : Inv n k s' := by
  unfold addX at hx
  split at hx
  · cases hx
  · injection hx with hx
    subst hx
    have hl : (s.code ++ [x]).length = s.code.length + 1 := by simp
    refine ⟨by show (s.code ++ [x]).length ≤ _; omega, h.p, h.u, fun u hu => ?_, fun p hp => ?_, h.d, h.l⟩
    · show u.2.1 < (s.code ++ [x]).length
      have := h.at_ u hu
      omega
    · show p.2 ≤ (s.code ++ [x]).length
      have := h.pl p hp
      omega
theorem Inv.enc {n k : Nat} {s s' : Asm} {op a b c : Int} (h : Inv n k s) (hx : encX s op a b c = some s') : Inv n k s' := by
  unfold encX at hx
  split at hx
  · exact h.add hx
  · cases hx
theorem Inv.withC {n k : Nat} {s s' : Asm} {m op a b : Int} {g : List UInt8} (hgz : g.length ≤ 1000000) (h : Inv n k s) (hx : withX s m op a b g = some s') : Inv n (k + 1) s' := by
  unfold withX at hx
  simp only at hx
  split at hx
  · unfold encX at hx
    split at hx
    · unfold addX at hx
      simp only at hx
      split at hx
      · cases hx
      · rename_i hc
        injection hx with hx
        subst hx
        have hp := h.p
        have hu := h.u
        refine ⟨?_, by simp only; omega, by simp only [List.length_append, List.length_singleton]; omega, fun u hu => ?_, fun p hp => ?_, h.d, fun u hu => ?_⟩
        · simp only [List.length_append, List.length_singleton]; omega
        · simp only [List.length_append, List.length_singleton]
          rcases List.mem_append.1 hu with hu | hu
          · have := h.at_ u hu; omega
          · rw [List.mem_singleton] at hu
            subst hu
            exact Nat.lt_succ_self _
        · simp only [List.length_append, List.length_singleton]
          have := h.pl p hp
          omega
        · rcases List.mem_append.1 hu with hu | hu
          · exact h.l u hu
          · rw [List.mem_singleton] at hu
            subst hu
            exact hgz
    · cases hx
  · split at hx
    · cases hx
    · split at hx
      · cases hx
      · exact (h.enc hx).more (Nat.le_refl n) (Nat.le_succ k)
theorem Inv.ins {n k : Nat} {s s' : Asm} {m op : Int} {gs : List (List UInt8)} (hgs : ∀ a ∈ gs, a.length ≤ 1000000) (h : Inv n k s) (hx : insX s m op gs = some s') : Inv n (k + 1) s' := by
  unfold insX at hx
  split at hx
  · split at hx
    · exact h.withC (hgs _ (by simp)) hx
    · cases hx
  · split at hx
    · exact (h.enc hx).more (Nat.le_refl n) (Nat.le_succ k)
    · cases hx
  · split at hx
    · exact (h.enc hx).more (Nat.le_refl n) (Nat.le_succ k)
    · cases hx
  · split at hx
    · exact h.withC (hgs _ (by simp)) hx
    · cases hx
  · exact h.withC (hgs _ (by simp)) hx
  · split at hx
    · exact (h.enc hx).more (Nat.le_refl n) (Nat.le_succ k)
    · cases hx
  · exact (h.enc hx).more (Nat.le_refl n) (Nat.le_succ k)
  · cases hx
theorem Inv.dir {n k : Nat} {s s' : Asm} {o : List UInt8} {gs : List (List UInt8)} (h : Inv n k s) (hx : dirX s o gs = some s') : Inv n k s' := by
  unfold dirX at hx
  split at hx
  · split at hx
    · cases hx
    · simp only at hx
      split at hx
      · cases hx
      · split at hx
        · split at hx
          · cases hx
          · exact h.add hx
        · split at hx
          · cases hx
          · rename_i hd
            injection hx with hx
            subst hx
            exact ⟨h.c, h.p, h.u, h.at_, h.pl, by simp only; omega, h.l⟩
  · cases hx
theorem Inv.line {n k : Nat} {s s' : Asm} {m : Int} {l : List UInt8} (hl : l.length ≤ 1000000) (h : Inv n k s) (hx : lineS s m l = some s') : Inv (n + 1) (k + 1) s' := by
  unfold lineS at hx
  split at hx
  · cases hx
  · rename_i lb o gs hX
    split at hx
    · cases hx
    · simp only at hx
      have fin : ∀ (n' : Nat) (s1 : Asm), n' ≤ n + 1 → Inv n' k s1 → (if o = [] then some s1 else if o = wordL ∨ o = dataL then dirX s1 o gs else if opI o = 0 then none else insX s1 m (opI o) gs) = some s' → Inv (n + 1) (k + 1) s' := by
        intro n' s1 hn h hx
        split at hx
        · injection hx with hx
          subst hx
          exact h.more hn (Nat.le_succ k)
        split at hx
        · exact (h.dir hx).more hn (Nat.le_succ k)
        split at hx
        · cases hx
        · exact (h.ins (fun a ha => Nat.le_trans ((lineX_le hX).2 a ha) hl) hx).more hn (Nat.le_refl _)
      by_cases hlb : lb = []
      · rw [if_pos hlb] at hx
        exact fin n s (Nat.le_succ n) h hx
      · rw [if_neg hlb] at hx
        refine fin (n + 1) { s with pl := (lb, s.code.length) :: s.pl } (Nat.le_refl _) ⟨h.c, ?_, h.u, h.at_, ?_, h.d, h.l⟩ hx
        · have := h.p
          simp only [List.length_cons]
          omega
        · intro p hp
          rcases List.mem_cons.1 hp with rfl | hp
          · exact Nat.le_refl _
          · exact h.pl p hp
end Go.Proofs.YtknonabeagbjeaaGreatDoor
