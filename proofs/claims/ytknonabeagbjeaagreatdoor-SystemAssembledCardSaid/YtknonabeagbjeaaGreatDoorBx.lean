/- Layer 12 without a program: what was read is right. -/
/- Layer 12 without a program: a listing's text is read as the image that it was. -/
/- Layer 12 without a program: a listing's text is read as the image that it was: the labels' places. -/
import Derived.Test.YtknonabeagbjeaaGreatDoorBn
import Derived.Test.YtknonabeagbjeaaGreatDoorImgP
import Derived.Test.YtknonabeagbjeaaGreatDoorBv
import Derived.Test.YtknonabeagbjeaaGreatDoorBo
namespace Go.Proofs.YtknonabeagbjeaaGreatDoor

theorem Inv.lines : ∀ (ls : List (List UInt8)) (n k : Nat) (m : Int) (s s' : Asm), (∀ l ∈ ls, l.length ≤ 1000000) → Inv n k s → linesS s m ls = some s' → ∃ n' k', Inv n' k' s'
  | [], n, k, _, s, s', _, h, e => by
    injection e with e
    subst e
    exact ⟨n, k, h⟩
  | l :: r, n, k, m, s, s', hl, h, e => by
    rw [linesS] at e
    split at e
    · rename_i s1 h1
      exact Inv.lines r (n + 1) (k + 1) (m + 1) s1 s' (fun x hx => hl x (List.mem_cons_of_mem _ hx)) (h.line (hl l List.mem_cons_self) h1) e
    · cases e
theorem useS_len : ∀ (us : List (Int × Nat × List UInt8)) (pl : List (List UInt8 × Nat)) (c c' : List UInt32), useS pl c us = some c' → c'.length = c.length
  | [], _, c, c', e => by
    injection e with e
    rw [e]
  | u :: r, pl, c, c', e => by
    rw [useS] at e
    split at e
    · cases e
    · split at e
      · cases e
      · rw [useS_len r pl _ c' e, List.length_set]
theorem readX_right {t : List UInt8} {c : List UInt32} {d : Nat} (h : readX t = some (c, d)) : rightB c.length (d : Int) = true := by
  unfold readX at h
  split at h
  · cases h
  rename_i hl
  split at h
  · cases h
  rename_i s hs
  split at h
  · cases h
  rename_i c' hu
  injection h with h
  injection h with h1 h2
  subst h1
  subst h2
  have hll : ∀ l ∈ splitP 10 t, l.length ≤ 1000000 := fun l hx => by
    have := splitN_mem 10 _ _ l hx
    omega
  obtain ⟨n, k, hi⟩ := Inv.lines _ 0 0 1 asm0 s hll Inv.zero hs
  have h1 := useS_len _ _ _ _ hu
  have h2 := hi.c
  have h3 := hi.d
  unfold rightB
  exact decide_eq_true ⟨by omega, by omega, by omega⟩
end Go.Proofs.YtknonabeagbjeaaGreatDoor
namespace Go.Proofs.YtknonabeagbjeaaGreatDoor

structure St (code : List UInt32) (d k : Nat) (s : Asm) : Prop where
  c : s.code = (code.take k).map (clr code.length)
  d : s.dat = d
  p1 : ∀ i, i < k → isT code i = true → lookP (76 :: Lib.decDigits i) s.pl = some i
  p0 : ∀ i, k ≤ i → lookP (76 :: Lib.decDigits i) s.pl = none
  u1 : ∀ u ∈ s.us, ∃ x, code[u.2.1]? = some x ∧ jr code.length x = true ∧ u.2.2 = 76 :: Lib.decDigits (cD x).toNat
  u2 : ∀ i x, i < k → code[i]? = some x → jr code.length x = true → ∃ u ∈ s.us, u.2.1 = i
theorem St.zero (code : List UInt32) (d : Nat) : St code d 0 { asm0 with dat := d, has := true } :=
  ⟨rfl, rfl, fun i h => absurd h (by omega), fun _ _ => rfl, fun u h => absurd h (by simp [asm0]), fun i x h => absurd h (by omega)⟩
theorem lookP_cons (l l' : List UInt8) (p : Nat) (pl : List (List UInt8 × Nat)) : lookP l ((l', p) :: pl) = if l' = l then some p else lookP l pl := by
  unfold lookP
  rw [List.find?_cons]
  by_cases h : l' = l
  · rw [decide_eq_true h, if_pos h]; rfl
  · rw [decide_eq_false h, if_neg h]
theorem lab_inj {i j : Nat} (h : (76 : UInt8) :: Lib.decDigits i = 76 :: Lib.decDigits j) : i = j := by
  injection h with _ h
  exact dec_inj h
theorem linesS_ok {s s1 : Asm} {m : Int} {l : List UInt8} {r : List (List UInt8)} (h : lineS s m l = some s1) : linesS s m (l :: r) = linesS s1 (m + 1) r := linesS_some h
theorem St.row {code : List UInt32} {d k : Nat} {s : Asm} (h : St code d k s) (hk : k < code.length) (hn : code.length ≤ 16384) (m : Int) (rest : List (List UInt8)) :
    ∃ s' m', St code d (k + 1) s' ∧ linesS s m (rowP code k ++ rest) = linesS s' m' rest := by
  have hcl : s.code.length = k := by rw [h.c, List.length_map, List.length_take]; omega
  have hgd : code.getD k 0 = code[k] := by rw [List.getD_eq_getElem?_getD, List.getElem?_eq_getElem hk]; rfl
  have htk : (code.take (k + 1)).map (clr code.length) = (code.take k).map (clr code.length) ++ [clr code.length code[k]] := by rw [List.take_succ_eq_append_getElem hk, List.map_append]; rfl
  have hlx : ∀ (s1 : Asm) (m : Int), s1.code = s.code → s1.dat = s.dat → s1.us = s.us → (∀ i, i < k + 1 → isT code i = true → lookP (76 :: Lib.decDigits i) s1.pl = some i) → (∀ i, k + 1 ≤ i → lookP (76 :: Lib.decDigits i) s1.pl = none) →
      ∃ s' m', St code d (k + 1) s' ∧ linesS s1 m (([32, 32] ++ itemL (code.getD k 0) code.length) :: rest) = linesS s' m' rest := by
    intro s1 m e1 e2 e3 q1 q0
    rw [hgd]
    refine ⟨_, m + 1, ?_, linesS_ok (line_item s1 m code[k] code.length (by rw [e1]; omega))⟩
    refine ⟨?_, e2.trans h.d, q1, q0, ?_, ?_⟩
    · show s1.code ++ [_] = _
      rw [e1, h.c, htk]
    · intro u hu
      have hu2 : u ∈ (if jr code.length code[k] = true then s1.us ++ [(m, s1.code.length, 76 :: Lib.decDigits (cD code[k]).toNat)] else s1.us) := hu
      split at hu2
      · rename_i hj
        rcases List.mem_append.1 hu2 with hu2 | hu2
        · rw [e3] at hu2; exact h.u1 u hu2
        · rw [List.mem_singleton] at hu2
          subst hu2
          exact ⟨code[k], by show code[s1.code.length]? = _; rw [e1, hcl]; exact List.getElem?_eq_getElem hk, hj, rfl⟩
      · rw [e3] at hu2; exact h.u1 u hu2
    · intro i x hi hx hj
      show ∃ u ∈ (if jr code.length code[k] = true then s1.us ++ [(m, s1.code.length, 76 :: Lib.decDigits (cD code[k]).toNat)] else s1.us), u.2.1 = i
      by_cases hik : i = k
      · subst hik
        rw [List.getElem?_eq_getElem hk] at hx
        injection hx with hx
        rw [hx, if_pos hj]
        exact ⟨_, List.mem_append_right _ (List.mem_singleton.2 rfl), by show s1.code.length = i; rw [e1, hcl]⟩
      · obtain ⟨u, hu, hu2⟩ := h.u2 i x (by omega) hx hj
        refine ⟨u, ?_, hu2⟩
        split
        · exact List.mem_append_left _ (by rw [e3]; exact hu)
        · rw [e3]; exact hu
  unfold rowP
  by_cases ht : isT code k = true
  · rw [if_pos ht, List.append_assoc]
    show ∃ s' m', _ ∧ linesS s m (lblL k :: (([32, 32] ++ itemL (code.getD k 0) code.length) :: rest)) = _
    rw [linesS_ok (line_lbl s m k (by omega) (h.p0 k (Nat.le_refl _)))]
    refine hlx _ _ rfl rfl rfl (fun i hi hit => ?_) (fun i hi => ?_)
    · show lookP _ ((_, s.code.length) :: s.pl) = _
      rw [lookP_cons, hcl]
      by_cases hik : k = i
      · rw [if_pos (by rw [hik]), hik]
      · rw [if_neg (fun e => hik (lab_inj e))]
        exact h.p1 i (by omega) hit
    · show lookP _ ((_, s.code.length) :: s.pl) = _
      rw [lookP_cons, if_neg (fun e => by have := lab_inj e; omega)]
      exact h.p0 i (by omega)
  · rw [if_neg ht, List.nil_append]
    refine hlx s m rfl rfl rfl (fun i hi hit => ?_) (fun i hi => h.p0 i (by omega))
    by_cases hik : i = k
    · rw [hik] at hit; exact absurd hit ht
    · exact h.p1 i (by omega) hit
theorem St.rows (code : List UInt32) (d : Nat) (hn : code.length ≤ 16384) (hd : d ≤ 32768) : ∀ k, k ≤ code.length → ∀ rest, ∃ s' m', St code d k s' ∧ linesS asm0 1 (linesP code d k ++ rest) = linesS s' m' rest
  | 0, _, rest => ⟨_, _, St.zero code d, linesS_ok (line_hdr 1 d hd)⟩
  | k + 1, hk, rest => by
    obtain ⟨s1, m1, h1, e1⟩ := St.rows code d hn hd k (by omega) (rowP code k ++ rest)
    obtain ⟨s2, m2, h2, e2⟩ := h1.row (by omega) hn m1 rest
    exact ⟨s2, m2, h2, by rw [linesP_succ, List.append_assoc, e1, e2]⟩
end Go.Proofs.YtknonabeagbjeaaGreatDoor
namespace Go.Proofs.YtknonabeagbjeaaGreatDoor

theorem or_back {n : Nat} {x : UInt32} (h : jr n x = true) : (x ||| UInt32.ofNat (cD x).toNat) = x ∧ (clr n x ||| UInt32.ofNat (cD x).toNat) = x := by
  have hx := x.toNat_lt
  have hc : (cD x).toNat = x.toNat % 65536 := by unfold cD; omega
  have he : (encI (opD x) (aD x) (bD x) 0).toNat = x.toNat / 65536 * 65536 := by unfold encI opD aD bD; omega
  have hj : x.toNat / 65536 * 65536 ||| x.toNat % 65536 = x.toNat := by
    rw [nat_join 16 _ _ (by omega) (by omega)]
    omega
  have hclr : (clr n x).toNat = x.toNat / 65536 * 65536 := by
    unfold clr
    rw [if_pos h, UInt32.toNat_ofNat', he, Nat.mod_eq_of_lt (show _ < 2 ^ 32 by omega)]
  have hof : (UInt32.ofNat (cD x).toNat).toNat = x.toNat % 65536 := by
    rw [hc, UInt32.toNat_ofNat', Nat.mod_eq_of_lt (show _ < 2 ^ 32 by omega)]
  constructor
  · refine UInt32.toNat_inj.1 ?_
    rw [UInt32.toNat_or, hof]
    conv => lhs; lhs; rw [← hj]
    rw [Nat.or_assoc, Nat.or_self, hj]
  · refine UInt32.toNat_inj.1 ?_
    rw [UInt32.toNat_or, hof, hclr, hj]
theorem useS_fix {code : List UInt32} (hn : code.length ≤ 16384) (pl : List (List UInt8 × Nat)) (hpl : ∀ c, c < code.length → isT code c = true → lookP (76 :: Lib.decDigits c) pl = some c) :
    ∀ (us : List (Int × Nat × List UInt8)) (cs : List UInt32), cs.length = code.length → (∀ u ∈ us, ∃ x, code[u.2.1]? = some x ∧ jr code.length x = true ∧ u.2.2 = 76 :: Lib.decDigits (cD x).toNat) →
      (∀ (i : Nat) (x : UInt32), code[i]? = some x → cs[i]? = some x ∨ (cs[i]? = some (clr code.length x) ∧ ∃ u ∈ us, u.2.1 = i)) → useS pl cs us = some code
  | [], cs, hl, _, h => by
    have : cs = code := by
      refine List.ext_getElem? fun i => ?_
      cases hx : code[i]? with
      | none => exact List.getElem?_eq_none (by rw [hl]; exact List.getElem?_eq_none_iff.1 hx)
      | some x =>
        rcases h i x hx with h | ⟨_, u, hu, _⟩
        · exact h
        · exact absurd hu (by simp)
    rw [this]
    rfl
  | (n, i, l) :: r, cs, hl, hu, h => by
    obtain ⟨x, hx, hj, e⟩ := hu _ List.mem_cons_self
    simp only at hx e
    subst e
    have hi := (List.getElem?_eq_some_iff.1 hx).1
    obtain ⟨a1, b1, c1, a2, b2, c2⟩ := @dec_parts x
    have hjx := hj
    unfold jr at hjx
    simp only [Bool.and_eq_true, decide_eq_true_iff] at hjx
    have hcl : (cD x).toNat < code.length := by omega
    have hT : isT code (cD x).toNat = true := by
      unfold isT
      rw [List.any_eq_true]
      refine ⟨x, List.mem_of_getElem? hx, ?_⟩
      rw [hjx.1, decide_eq_true c2.symm]
      rfl
    rw [useS_some (hpl _ hcl hT) (by omega)]
    have hv : cs.getD i 0 ||| UInt32.ofNat (cD x).toNat = x := by
      rcases h i x hx with h | ⟨h, _⟩
      · rw [List.getD_eq_getElem?_getD, h]; exact (or_back hj).1
      · rw [List.getD_eq_getElem?_getD, h]; exact (or_back hj).2
    rw [hv]
    refine useS_fix hn pl hpl r _ (by rw [List.length_set]; exact hl) (fun u hu2 => hu u (List.mem_cons_of_mem _ hu2)) (fun j y hy => ?_)
    by_cases hij : i = j
    · subst hij
      rw [hx] at hy
      injection hy with hy
      rw [← hy]
      exact .inl (List.getElem?_set_self (by omega))
    · rw [List.getElem?_set_ne hij]
      rcases h j y hy with h | ⟨h, u, hu2, hu3⟩
      · exact .inl h
      · refine .inr ⟨h, u, ?_, hu3⟩
        rcases List.mem_cons.1 hu2 with rfl | hu2
        · exact absurd hu3 hij
        · exact hu2
theorem noLf_ne {l : List UInt8} (h : noLf l = true) : ∀ x ∈ l, x ≠ 10 := by
  intro x hx
  have := of_decide_eq_true (List.all_eq_true.1 h x hx)
  rintro rfl
  exact this rfl
/-- A listing's text is read as the image that it was. -/
theorem readX_text (code : List UInt32) (d : Nat) (hr : rightB code.length (d : Int) = true) (hz : (textT code d).length ≤ 20000) : readX (textT code d) = some (code, d) := by
  have hr2 := of_decide_eq_true hr
  have hn : code.length ≤ 16384 := hr2.1
  have hd : d ≤ 32768 := by omega
  obtain ⟨s, m, hs, e⟩ := St.rows code d hn hd code.length (Nat.le_refl _) [[]]
  have hsp : splitP 10 (textT code d) = linesP code d code.length ++ [[]] :=
    split_lfs _ _ (fun l hl => noLf_ne (List.all_eq_true.1 (lines_noLf code d code.length) l hl)) (Nat.le_refl _)
  have hlin : linesS asm0 1 (splitP 10 (textT code d)) = some s := by
    rw [hsp, e, linesS_ok (line_nil s m)]
    rfl
  have hcode : s.code = code.map (clr code.length) := by rw [hs.c, List.take_length]
  have huse : useS s.pl s.code s.us = some code := by
    refine useS_fix hn s.pl hs.p1 s.us s.code (by rw [hcode, List.length_map]) hs.u1 (fun i x hx => ?_)
    have hi := (List.getElem?_eq_some_iff.1 hx).1
    have hci : s.code[i]? = some (clr code.length x) := by rw [hcode, List.getElem?_map, hx]; rfl
    cases hj : jr code.length x with
    | false => exact .inl (by rw [hci, clr_no hj])
    | true => exact .inr ⟨hci, hs.u2 i x hi hx hj⟩
  rw [readX_lines (by omega), hlin]
  simp only
  rw [huse, hs.d]
end Go.Proofs.YtknonabeagbjeaaGreatDoor
