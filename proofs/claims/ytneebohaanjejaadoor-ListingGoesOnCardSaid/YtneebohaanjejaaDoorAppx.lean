/- Appending a slice that came in to a row of the call's own: whatever is no part of that row stays. No program in sight. -/
import Derived.Test.YtneebohaanjejaaDoorApp
namespace Go.Proofs.YtneebohaanjejaaDoor
open Go.RowKit

theorem own_none (w : World) (B E : Nat) (hB : B ≤ w.heap.size) : (w.alloc (.cells #[] E)).ownsRow B E 1 (.slice (some ⟨w.heap.size, 0, none⟩) 0 0) 0 [] :=
  ⟨rfl, .inr ⟨w.heap.size, 0, #[], rfl, hB, heap_alloc_new w _, Nat.le_refl _, by unfold maxLen; omega, rfl, rfl⟩⟩
theorem step_append_slk {P : Program} {ops : Array Oper} {o : Oper} {a : Act} {K : Act → World → Prop} {Q : Exit → Act → World → Prop} {X : Prop} {w : World}
    (hgd : o.guard = none) (s x : Operand) (t : TypeId) (ho : o.op = .call { callee := .builtin .append, args := #[s, x], argTypes := #[t, t] })
    (B : Nat) (E : TypeId) (z : Value) (bytes : Nat) (ht : P.underlying t = some (.slice E)) (hinfo : (P.info? E).map (fun i => (i.zero, i.size, i.bytes)) = some (some z, 1, bytes))
    (hzs : z.cells.size = 1) (r : Nat) (hs : a.eval s = .slice (some ⟨r, 0, none⟩) 0 0) (hown : w.ownsRow B E 1 (.slice (some ⟨r, 0, none⟩) 0 0) 0 [])
    (A : Option Addr) (m c : Nat) (ys : List Value) (hx : a.eval x = .slice A m c) (hS : Sl w w.heap.size A m ys) (h1 : ∀ u ∈ ys, u.oneCell' = true)
    (hbytes : m * bytes ≤ 140737488355328) (h63 : m ≤ 140737488355328) (hB : B ≤ w.heap.size)
    (h : ∀ A' c' w', w'.ownsRow B E 1 (.slice A' m c') m ys → Below B w w' → (∀ k, k < w.heap.size → k ≠ r → w'.heap[k]? = w.heap[k]?) → K (a.put o.dst (.slice A' m c')) w') :
    if Region.wanted o (yielded ops a.tmps) = true then Oper.wp P o a w K Q else X := by
  obtain ⟨i0, hi, hz0, hz1, hz2⟩ := info_parts hinfo
  rw [if_pos (by simp [Region.wanted, hgd])]
  by_cases hm : m = 0
  · subst hm
    have hys : ys = [] := List.eq_nil_of_length_eq_zero hS.1
    subst hys
    have hsrc : Src P i0.size t (.slice A 0 c) 0 [] w := by
      refine ⟨.inl ⟨E, ht⟩, fun w' => ?_, ?_, ?_, by simp, by simp⟩
      · cases A <;> simp [Builtin.lenOf]
      · cases A <;> simp [Builtin.firstCells, loadCells, loadCellsFrom]
      · cases A <;> simp [Builtin.firstCells, loadCells, loadCellsFrom]
    have hr := run_append_nothing w t t o.type E i0 ht hi (some ⟨r, 0, none⟩) 0 0 (Nat.le_refl _) (.slice A 0 c) hsrc
    unfold Oper.wp execOp
    simp only [ho, resolve, invoke, builtin, Sem.run_bind, Sem.run_pure, Result.andThen_ok, List.map_toArray, List.map_cons, List.map_nil, hs, hx, hr]
    exact h _ _ w hown (Below.refl _ w) (fun _ _ _ => rfl)
  · obtain ⟨b, off, rfl, hb, hc⟩ := hS.2 (by omega)
    refine wp_append_own _ s x t ho B E i0 z 1 bytes ht hi hz0 hz1 hz2 hzs (by decide) _ 0 [] hs hown ⟨b, off, none⟩ m c ys hx (by rw [hS.1]; omega) (fun j u hj => ?_) h1 (by unfold maxLen; omega) (by rw [Nat.zero_add]; exact hbytes) hB ?_
    · have := hc j u hj
      have e : (⟨b, off, none⟩ : Addr).add j = ⟨b, off + j, none⟩ := by unfold Addr.add; split <;> simp_all
      rw [e]; exact this
    · intro v' w' hown' hg _
      rw [Nat.zero_add, List.nil_append] at hown'
      rcases hown'.2 with ⟨_, h0⟩ | ⟨g, cap, cur, rfl, _⟩
      · omega
      refine h _ _ w' hown' ((Below.refl B w).grown hg hB (fun k hk => (hown.lt k hk).1)) (fun k hk hne => hg.block k hk (fun e => hne ?_))
      have e2 : some k = some r := e
      exact Option.some.inj e2
theorem own_ne {w : World} {B E n g r c : Nat} {t : TypeId} {xs : List Value} {cs : Array Value} (h : w.ownsRow B E 1 (.slice (some ⟨r, 0, none⟩) n c) n xs) (hb : Blk w g t cs) (hne : t ≠ E) : g ≠ r := by
  rintro rfl
  rcases h.2 with ⟨h0, _⟩ | ⟨g', cap, cur, hv, hBr, hr, rest⟩
  · cases h0
  · simp only [Value.slice.injEq, Option.some.injEq, Addr.mk.injEq] at hv
    obtain ⟨⟨rfl, -, -⟩, -, -⟩ := hv
    rw [show w.heap[g]? = _ from hb] at hr
    simp only [Option.some.injEq, Obj.cells.injEq] at hr
    exact hne hr.2.1
/-- What the main part of the walk holds: the boxes of both images, and that of a third one. -/
theorem step_append_slx {P : Program} {ops : Array Oper} {o : Oper} {a : Act} {K : Act → World → Prop} {Q : Exit → Act → World → Prop} {X : Prop} {w : World}
    (hgd : o.guard = none) (s x : Operand) (t : TypeId) (ho : o.op = .call { callee := .builtin .append, args := #[s, x], argTypes := #[t, t] })
    (B : Nat) (E : TypeId) (z : Value) (bytes : Nat) (ht : P.underlying t = some (.slice E)) (hinfo : (P.info? E).map (fun i => (i.zero, i.size, i.bytes)) = some (some z, 1, bytes))
    (hzs : z.cells.size = 1) (v : Value) (n : Nat) (xs : List Value) (hs : a.eval s = v) (hown : w.ownsRow B E 1 v n xs)
    (A : Option Addr) (m c : Nat) (ys : List Value) (hx : a.eval x = .slice A m c) (hS : Sl w w.heap.size A m ys) (h1 : ∀ u ∈ ys, u.oneCell' = true)
    (hbytes : (n + m) * bytes ≤ 140737488355328) (h63 : n + m ≤ 140737488355328) (hB : B ≤ w.heap.size)
    (h : ∀ A' c' w', w'.ownsRow B E 1 (.slice A' (n + m) c') (n + m) (xs ++ ys) → Below B w w' → (∀ k, k < w.heap.size → some k ≠ v.ownBlock → w'.heap[k]? = w.heap[k]?) → K (a.put o.dst (.slice A' (n + m) c')) w') :
    if Region.wanted o (yielded ops a.tmps) = true then Oper.wp P o a w K Q else X := by
  obtain ⟨i0, hi, hz0, hz1, hz2⟩ := info_parts hinfo
  rw [if_pos (by simp [Region.wanted, hgd])]
  by_cases hm : m = 0
  · subst hm
    have hys : ys = [] := List.eq_nil_of_length_eq_zero hS.1
    subst hys
    have hv : ∃ b sc, v = .slice b n sc ∧ n ≤ sc := by
      rcases hown.2 with ⟨rfl, h0⟩ | ⟨g, cap, cur, rfl, _, _, hc, _⟩
      · subst h0; exact ⟨none, 0, rfl, Nat.le_refl _⟩
      · exact ⟨_, _, rfl, hc⟩
    obtain ⟨b, sc, rfl, hle⟩ := hv
    have hsrc : Src P i0.size t (.slice A 0 c) 0 [] w := by
      refine ⟨.inl ⟨E, ht⟩, fun w' => ?_, ?_, ?_, by simp, by simp⟩
      · cases A <;> simp [Builtin.lenOf]
      · cases A <;> simp [Builtin.firstCells, loadCells, loadCellsFrom]
      · cases A <;> simp [Builtin.firstCells, loadCells, loadCellsFrom]
    have hr := run_append_nothing w t t o.type E i0 ht hi b n sc hle (.slice A 0 c) hsrc
    unfold Oper.wp execOp
    simp only [ho, resolve, invoke, builtin, Sem.run_bind, Sem.run_pure, Result.andThen_ok, List.map_toArray, List.map_cons, List.map_nil, hs, hx, hr]
    refine h b sc w ?_ (Below.refl _ w) (fun _ _ _ => rfl)
    simpa using hown
  · obtain ⟨b, off, rfl, hb, hc⟩ := hS.2 (by omega)
    refine wp_append_own _ s x t ho B E i0 z 1 bytes ht hi hz0 hz1 hz2 hzs (by decide) v n xs hs hown ⟨b, off, none⟩ m c ys hx (by rw [hS.1]; omega) (fun j u hj => ?_) h1 (by unfold maxLen; omega) hbytes hB ?_
    · have := hc j u hj
      have e : (⟨b, off, none⟩ : Addr).add j = ⟨b, off + j, none⟩ := by unfold Addr.add; split <;> simp_all
      rw [e]; exact this
    · intro v' w' hown' hg _
      obtain ⟨A', c', rfl, -, -, -⟩ := Sl.of_own hown'
      exact h A' c' w' hown' ((Below.refl B w).grown hg hB (fun k hk => (hown.lt k hk).1)) (fun k hk hne => hg.block k hk hne)
end Go.Proofs.YtneebohaanjejaaDoor
