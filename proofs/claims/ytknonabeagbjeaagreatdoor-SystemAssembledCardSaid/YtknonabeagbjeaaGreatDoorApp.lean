/- Appending a slice that came in, or one of the call's own, to a row of the call's own. No program in sight. -/
import Derived.Deep.Upon
import Derived.Test.YtknonabeagbjeaaGreatDoorLib
namespace Go.Proofs.YtknonabeagbjeaaGreatDoor
open Go.RowKit

theorem step_append_sl {P : Program} {ops : Array Oper} {o : Oper} {a : Act} {K : Act → World → Prop} {Q : Exit → Act → World → Prop} {X : Prop} {w : World}
    (hgd : o.guard = none) (s x : Operand) (t : TypeId) (ho : o.op = .call { callee := .builtin .append, args := #[s, x], argTypes := #[t, t] })
    (B : Nat) (E : TypeId) (z : Value) (bytes : Nat) (ht : P.underlying t = some (.slice E)) (hinfo : (P.info? E).map (fun i => (i.zero, i.size, i.bytes)) = some (some z, 1, bytes))
    (hzs : z.cells.size = 1) (v : Value) (n : Nat) (xs : List Value) (hs : a.eval s = v) (hown : w.ownsRow B E 1 v n xs)
    (A : Option Addr) (m c : Nat) (ys : List Value) (hx : a.eval x = .slice A m c) (hS : Sl w w.heap.size A m ys) (h1 : ∀ u ∈ ys, u.oneCell' = true)
    (hbytes : (n + m) * bytes ≤ 140737488355328) (h63 : n + m ≤ 140737488355328) (hB : B ≤ w.heap.size)
    (h : ∀ v' w', w'.ownsRow B E 1 v' (n + m) (xs ++ ys) → Below B w w' → K (a.put o.dst v') w') :
    if Region.wanted o (yielded ops a.tmps) = true then Oper.wp P o a w K Q else X := by
  obtain ⟨i0, hi, hz0, hz1, hz2⟩ := info_parts hinfo
  rw [if_pos (by simp [Region.wanted, hgd])]
  by_cases hm : m = 0
  · subst hm
    have hys : ys = [] := List.eq_nil_of_length_eq_zero hS.1
    subst hys
    have hv : ∃ b sl sc, v = .slice b sl sc ∧ sl ≤ sc := by
      rcases hown.2 with ⟨rfl, _⟩ | ⟨g, cap, cur, rfl, _, _, hc, _⟩
      · exact ⟨none, 0, 0, rfl, Nat.le_refl _⟩
      · exact ⟨_, _, _, rfl, hc⟩
    obtain ⟨b, sl, sc, rfl, hle⟩ := hv
    have hsrc : Src P i0.size t (.slice A 0 c) 0 [] w := by
      refine ⟨.inl ⟨E, ht⟩, fun w' => ?_, ?_, ?_, by simp, by simp⟩
      · cases A <;> simp [Builtin.lenOf]
      · cases A <;> simp [Builtin.firstCells, loadCells, loadCellsFrom]
      · cases A <;> simp [Builtin.firstCells, loadCells, loadCellsFrom]
    have hr := run_append_nothing w t t o.type E i0 ht hi b sl sc hle (.slice A 0 c) hsrc
    unfold Oper.wp execOp
    simp only [ho, resolve, invoke, builtin, Sem.run_bind, Sem.run_pure, Result.andThen_ok, List.map_toArray, List.map_cons, List.map_nil, hs, hx, hr]
    refine h _ w ?_ (Below.refl _ w)
    simpa using hown
  · obtain ⟨b, off, rfl, hb, hc⟩ := hS.2 (by omega)
    refine wp_append_own _ s x t ho B E i0 z 1 bytes ht hi hz0 hz1 hz2 hzs (by decide) v n xs hs hown ⟨b, off, none⟩ m c ys hx (by rw [hS.1]; omega) (fun j u hj => ?_) h1 (by unfold maxLen; omega) hbytes hB ?_
    · have := hc j u hj
      have e : (⟨b, off, none⟩ : Addr).add j = ⟨b, off + j, none⟩ := by unfold Addr.add; split <;> simp_all
      rw [e]; exact this
    · intro v' w' hown' hg _
      exact h v' w' hown' ((Below.refl B w).grown hg hB (fun k hk => (hown.lt k hk).1))
theorem wpList_append_sl {P : Program} {ops : Array Oper} {rest : List Oper} {o : Oper} {a : Act} {Q : Exit → Act → World → Prop} {w : World}
    (hgd : o.guard = none) (s x : Operand) (t : TypeId) (ho : o.op = .call { callee := .builtin .append, args := #[s, x], argTypes := #[t, t] })
    (B : Nat) (E : TypeId) (z : Value) (bytes : Nat) (ht : P.underlying t = some (.slice E)) (hinfo : (P.info? E).map (fun i => (i.zero, i.size, i.bytes)) = some (some z, 1, bytes))
    (hzs : z.cells.size = 1) (v : Value) (n : Nat) (xs : List Value) (hs : a.eval s = v) (hown : w.ownsRow B E 1 v n xs)
    (A : Option Addr) (m c : Nat) (ys : List Value) (hx : a.eval x = .slice A m c) (hS : Sl w w.heap.size A m ys) (h1 : ∀ u ∈ ys, u.oneCell' = true)
    (hbytes : (n + m) * bytes ≤ 140737488355328) (h63 : n + m ≤ 140737488355328) (hB : B ≤ w.heap.size)
    (h : ∀ v' w', w'.ownsRow B E 1 v' (n + m) (xs ++ ys) → Below B w w' → wpList P ops Q rest (a.put o.dst v') w') : wpList P ops Q (o :: rest) a w := by
  refine wpList_plain hgd fun K hK => ?_
  have hst := step_append_sl (ops := ops) (K := K) (Q := Q) (X := True) hgd s x t ho B E z bytes ht hinfo hzs v n xs hs hown A m c ys hx hS h1 hbytes h63 hB (fun v' w' h1 h2 => hK _ _ (h v' w' h1 h2))
  rwa [if_pos (by simp [Region.wanted, hgd])] at hst
/-- A literal of one element, made by the call. -/
theorem own_lit1 (W : World) (E : TypeId) (B : Nat) (hB : B ≤ W.heap.size) (v0 : Value) : (W.alloc (.cells #[v0] E)).ownsRow B E 1 (.slice (some ⟨W.heap.size, 0, none⟩) 1 1) 1 [v0] :=
  ⟨rfl, .inr ⟨W.heap.size, 1, #[v0], rfl, hB, heap_alloc_new W _, Nat.le_refl _, by unfold maxLen; omega, rfl, rfl⟩⟩
end Go.Proofs.YtknonabeagbjeaaGreatDoor
