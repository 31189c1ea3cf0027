/- Layer 37, plain: two of a list exchanged; and rows of digests written in place. -/
import Derived.Test.YtdkkomcokefkhaaDoorRcW
namespace Go.Proofs.YtdkkomcokefkhaaDoor
open Go.RowKit

/-- Two of a list exchanged. -/
def swp {α : Type} (l : List α) (i k : Nat) (a b : α) : List α := (l.set i b).set k a
theorem swp_len {α : Type} (l : List α) (i k : Nat) (a b : α) : (swp l i k a b).length = l.length := by unfold swp; rw [List.length_set, List.length_set]
theorem swp_get {α : Type} (l : List α) (i k j : Nat) (a b : α) (hj : j < l.length) : (swp l i k a b)[j]'(by rw [swp_len]; exact hj) = if j = k then a else if j = i then b else l[j] := by
  unfold swp
  rw [List.getElem_set]
  by_cases h : k = j
  · rw [if_pos h, if_pos h.symm]
  · rw [if_neg h, if_neg (fun e => h e.symm), List.getElem_set]
    by_cases h2 : i = j
    · rw [if_pos h2, if_pos h2.symm]
    · rw [if_neg h2, if_neg (fun e => h2 e.symm)]
theorem eqD_symm {a b : Nat → UInt32} (h : eqD a b = true) : eqD b a = true := by
  obtain ⟨h0, h1, h2, h3⟩ := of_decide_eq_true h
  exact decide_eq_true ⟨h0.symm, h1.symm, h2.symm, h3.symm⟩
theorem eqD_self (a : Nat → UInt32) : eqD a a = true := decide_eq_true ⟨rfl, rfl, rfl, rfl⟩
theorem eqDs_swp (l : List (Nat → UInt32)) (i k : Nat) (hi : i < l.length) (hk : k < l.length) : eqDs l (swp l i k l[i] l[k]) = eqD l[i] l[k] := by
  rw [Bool.eq_iff_iff]
  constructor
  · intro h
    have h2 := (of_decide_eq_true h).2 k hk (by rw [swp_len]; exact hk)
    rw [swp_get l i k k _ _ hk, if_pos rfl] at h2
    exact eqD_symm h2
  · intro h
    refine decide_eq_true ⟨(swp_len _ _ _ _ _).symm, fun j hj hj' => ?_⟩
    rw [swp_get l i k j _ _ hj]
    by_cases e : j = k
    · subst e
      rw [if_pos rfl]
      exact eqD_symm h
    · rw [if_neg e]
      by_cases e2 : j = i
      · subst e2
        rw [if_pos rfl]
        exact h
      · rw [if_neg e2]
        exact eqD_self _
theorem eq_swp (l : List Int) (i k : Nat) (hi : i < l.length) (hk : k < l.length) : decide (l = swp l i k l[i] l[k]) = (l[i] == l[k]) := by
  rw [Bool.eq_iff_iff, decide_eq_true_iff, beq_iff_eq]
  constructor
  · intro h
    have h2 : l[k] = (swp l i k l[i] l[k])[k]'(by rw [swp_len]; exact hk) := by
      have := congrArg (fun x => x[k]?) h
      simp only [List.getElem?_eq_getElem hk, List.getElem?_eq_getElem (show k < (swp l i k l[i] l[k]).length by rw [swp_len]; exact hk)] at this
      injection this
    rw [swp_get l i k k _ _ hk, if_pos rfl] at h2
    exact h2.symm
  · intro h
    refine List.ext_getElem (swp_len _ _ _ _ _).symm (fun j h1 h2 => ?_)
    rw [swp_get l i k j _ _ h1]
    by_cases e : j = k
    · subst e
      rw [if_pos rfl]
      exact h.symm
    · rw [if_neg e]
      by_cases e2 : j = i
      · subst e2
        rw [if_pos rfl]
        exact h
      · rw [if_neg e2]
theorem pass_swp (l : List Int) (i k : Nat) (hi : i < l.length) (hk : k < l.length) (h : l.all passOk = true) : (swp l i k l[i] l[k]).all passOk = true := by
  rw [List.all_eq_true] at h ⊢
  intro x hx
  obtain ⟨j, hj, rfl⟩ := List.getElem_of_mem hx
  rw [swp_len] at hj
  rw [swp_get l i k j _ _ hj]
  by_cases e : j = k
  · rw [if_pos e]; exact h _ (List.getElem_mem hi)
  · rw [if_neg e]
    by_cases e2 : j = i
    · rw [if_pos e2]; exact h _ (List.getElem_mem hk)
    · rw [if_neg e2]; exact h _ (List.getElem_mem hj)
theorem flat_set (d : Nat → UInt32) : ∀ (l : List (Nat → UInt32)) (i : Nat), i < l.length → ((l.set i d).flatMap dgL) = ((((l.flatMap dgL).set (4 * i) (d 0)).set (4 * i + 1) (d 1)).set (4 * i + 2) (d 2)).set (4 * i + 3) (d 3)
  | [], i, h => absurd h (Nat.not_lt_zero _)
  | x :: l, 0, _ => by
    rw [List.set_cons_zero, List.flatMap_cons, List.flatMap_cons]
    rfl
  | x :: l, i + 1, h => by
    have ih := flat_set d l i (by simpa using h)
    rw [List.set_cons_succ, List.flatMap_cons, List.flatMap_cons, ih]
    have e : (dgL x).length = 4 := rfl
    rw [List.set_append_right _ _ (by rw [e]; omega), List.set_append_right _ _ (by rw [e]; omega), List.set_append_right _ _ (by rw [e]; omega), List.set_append_right _ _ (by rw [e]; omega), e]
    rw [show 4 * (i + 1) - 4 = 4 * i by omega, show 4 * (i + 1) + 1 - 4 = 4 * i + 1 by omega, show 4 * (i + 1) + 2 - 4 = 4 * i + 2 by omega, show 4 * (i + 1) + 3 - 4 = 4 * i + 3 by omega]
/-- One cell of a row of wide elements written. -/
theorem own_set_any {w : World} {B E sz g n c : Nat} {xs : List Value} (h : w.ownsRow B E sz (.slice (some ⟨g, 0, none⟩) n c) n xs) (k : Nat) (_hk : k < n * sz) (u : Value) : (w.setCell ⟨g, k, none⟩ u).ownsRow B E sz (.slice (some ⟨g, 0, none⟩) n c) n (xs.set k u) := by
  have hl := h.1
  refine ⟨by rw [List.length_set]; exact hl, ?_⟩
  rcases h.2 with ⟨h0, _⟩ | ⟨g', cap, cur, hv, hg, hh, hnc, hcm, hcs, ht⟩
  · cases h0
  · injection hv with hv _ hc
    injection hv with hv
    injection hv with hv
    subst hv hc
    refine .inr ⟨g, c, cur.setIfInBounds k u, rfl, hg, ?_, hnc, hcm, by simp [hcs], ?_⟩
    · simp [World.setCell, Array.getElem?_modify, hh]
    · rw [← ht, Array.toList_setIfInBounds, List.take_set]
theorem own_dig {w : World} {B E g n c : Nat} {ds : List (Nat → UInt32)} (h : w.ownsRow B E 4 (.slice (some ⟨g, 0, none⟩) n c) n ((ds.flatMap dgL).map wv)) (i : Nat) (hi : i < ds.length) (d : Nat → UInt32) :
    ((((w.setCell ⟨g, 4 * i, none⟩ (.int .u32 (d 0).toNat)).setCell ⟨g, 4 * i + 1, none⟩ (.int .u32 (d 1).toNat)).setCell ⟨g, 4 * i + 2, none⟩ (.int .u32 (d 2).toNat)).setCell ⟨g, 4 * i + 3, none⟩ (.int .u32 (d 3).toNat)).ownsRow B E 4 (.slice (some ⟨g, 0, none⟩) n c) n (((ds.set i d).flatMap dgL).map wv) := by
  have hl := h.1
  rw [List.length_map, flat_len] at hl
  have k := own_set_any (own_set_any (own_set_any (own_set_any h (4 * i) (by omega) (wv (d 0))) (4 * i + 1) (by omega) (wv (d 1))) (4 * i + 2) (by omega) (wv (d 2))) (4 * i + 3) (by omega) (wv (d 3))
  rw [flat_set d ds i hi, List.map_set, List.map_set, List.map_set, List.map_set]
  exact k
theorem own_frozen_any {w : World} {B E sz g n c : Nat} {xs : List Value} (h : w.ownsRow B E sz (.slice (some ⟨g, 0, none⟩) n c) n xs) (k : Nat) : w.frozen? ⟨g, k, none⟩ = false := by
  rcases h.2 with ⟨h0, _⟩ | ⟨g', cap, cur, hv, hg, hh, _⟩
  · cases h0
  · injection hv with hv _ _
    injection hv with hv
    injection hv with hv
    subst hv
    simp [World.frozen?, hh]
theorem own_cell_any {w : World} {B E sz g n c : Nat} {xs : List Value} (h : w.ownsRow B E sz (.slice (some ⟨g, 0, none⟩) n c) n xs) {k : Nat} {u : Value} (hu : xs[k]? = some u) : w.cell? ⟨g, k, none⟩ = some u := by
  have := h.cells (g := g) rfl k u hu
  have e : (⟨g, 0, none⟩ : Addr).add k = ⟨g, k, none⟩ := by unfold Addr.add; split <;> simp_all
  rwa [e] at this
/-- The cells of a slice of digests that came in, one behind the other. -/
theorem sd_cells {w : World} {B : Nat} {A : Option Addr} {ds : List (Nat → UInt32)} (h : Sd w B A ds) (h0 : 0 < ds.length) : ∃ b off, A = some ⟨b, off, none⟩ ∧ b < B ∧ ∀ j u, ((ds.flatMap dgL).map wv)[j]? = some u → w.cell? ((⟨b, off, none⟩ : Addr).add j) = some u := by
  obtain ⟨b, off, hA, hb, hc⟩ := h h0
  refine ⟨b, off, hA, hb, fun j u hu => ?_⟩
  have hj : j < 4 * ds.length := by
    have := (List.getElem?_eq_some_iff.1 hu).1
    rwa [List.length_map, flat_len] at this
  have e := flat_get ds (j / 4) (by omega) (j % 4) (Nat.mod_lt _ (by decide))
  rw [show 4 * (j / 4) + j % 4 = j by omega] at e
  rw [List.getElem?_map, e] at hu
  have hcj := hc (j / 4) (by omega) (j % 4) (Nat.mod_lt _ (by decide))
  rw [show off + 4 * (j / 4) + j % 4 = off + j by omega] at hcj
  have ea : (⟨b, off, none⟩ : Addr).add j = ⟨b, off + j, none⟩ := by unfold Addr.add; split <;> simp_all
  rw [ea, hcj, ← hu]
  rfl
/-- Appending what came in, of any width. -/
theorem wpList_append_at' {P : Program} {ops : Array Oper} {rest : List Oper} {o : Oper} {a : Act} {Q : Exit → Act → World → Prop} {w : World}
    (hgd : o.guard = none) (s x : Operand) (t : TypeId) (ho : o.op = .call { callee := .builtin .append, args := #[s, x], argTypes := #[t, t] })
    (B : Nat) (E : TypeId) (z : Value) (size bytes : Nat) (ht : P.underlying t = some (.slice E)) (hinfo : (P.info? E).map (fun i => (i.zero, i.size, i.bytes)) = some (some z, size, bytes))
    (hzs : z.cells.size = size) (hsz : 0 < size) (v : Value) (n : Nat) (xs : List Value) (hs : a.eval s = v) (hown : w.ownsRow B E size v n xs)
    (A : Addr) (m c : Nat) (ys : List Value) (hx : a.eval x = .slice (some A) m c) (hl : ys.length = m * size) (hys : ∀ j u, ys[j]? = some u → w.cell? (A.add j) = some u) (h1 : ∀ u ∈ ys, u.oneCell' = true)
    (hbytes : (n + m) * bytes ≤ 140737488355328) (h63 : n + m ≤ 140737488355328) (hB : B ≤ w.heap.size) (hm : 0 < m)
    (h : ∀ g cap w', w'.ownsRow B E size (.slice (some ⟨g, 0, none⟩) (n + m) cap) (n + m) (xs ++ ys) → Below B w w' → wpList P ops Q rest (a.put o.dst (.slice (some ⟨g, 0, none⟩) (n + m) cap)) w') : wpList P ops Q (o :: rest) a w := by
  obtain ⟨i0, hi, hz0, hz1, hz2⟩ := info_parts hinfo
  refine wpList_append_own _ hgd s x t ho B E i0 z size bytes ht hi hz0 hz1 hz2 hzs hsz v n xs hs hown A m c ys hx hl hys h1 (by unfold maxLen; omega) hbytes hB ?_
  intro v' w' hown' hg _
  rcases hown'.2 with ⟨_, h0⟩ | ⟨g, cap, cur, rfl, _⟩
  · omega
  · exact h g cap w' hown' ((Below.refl B w).grown hg hB (fun k hk => (hown.lt k hk).1))
theorem own_none (W : World) (E : TypeId) (B sz : Nat) (hB : B ≤ W.heap.size) {g : Nat} (hg : g = W.heap.size) : (W.alloc (.cells #[] E)).ownsRow B E sz (.slice (some ⟨g, 0, none⟩) 0 0) 0 [] := by
  subst hg
  exact ⟨by simp, .inr ⟨W.heap.size, 0, #[], rfl, hB, heap_alloc_new W _, Nat.le_refl _, Nat.zero_le _, by simp, by simp⟩⟩
end Go.Proofs.YtdkkomcokefkhaaDoor
