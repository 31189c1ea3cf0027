/- A row of bytes in a block of its own, and appending to it: all other blocks stay. No program in sight. -/
import Derived.Test.YtepgnnlihnajeaaDoorGr
namespace Go.Proofs.YtepgnnlihnajeaaDoor
open Go.RowKit

def Ro (w : World) (e : TypeId) (o cap : Nat) (xs : List Value) : Prop :=
  ∃ cur fz, w.heap[o]? = some (.cells cur e fz) ∧ xs.length ≤ cap ∧ cur.size = cap ∧ cur.toList.take xs.length = xs ∧ (fz = (0, 0) ∨ cap ≤ fz.1)
theorem Ro.lt {w : World} {e : TypeId} {o cap : Nat} {xs : List Value} (h : Ro w e o cap xs) : o < w.heap.size := by
  obtain ⟨cur, fz, hg, _⟩ := h
  exact (Array.getElem?_eq_some_iff.1 hg).1
theorem Ro.same {w w' : World} {e : TypeId} {o cap : Nat} {xs : List Value} (h : Ro w e o cap xs) (hs : w'.heap[o]? = w.heap[o]?) : Ro w' e o cap xs := by
  obtain ⟨cur, fz, hg, r⟩ := h
  exact ⟨cur, fz, hs.trans hg, r⟩
theorem Ro.gr {w : World} {e : TypeId} {o cap : Nat} {xs : List Value} (h : Ro w e o cap xs) : Gr w o e (.slice (some ⟨o, 0, none⟩) xs.length cap) xs.length xs := by
  obtain ⟨cur, fz, hg, h1, h2, h3, h4⟩ := h
  exact ⟨rfl, o, cap, cur, fz, rfl, Nat.le_refl _, hg, h1, h2, h3, h4⟩
theorem Ro.of_gr {w : World} {B : Nat} {e : TypeId} {v : Value} {n : Nat} {xs : List Value} (h : Gr w B e v n xs) : ∃ o cap, v = .slice (some ⟨o, 0, none⟩) xs.length cap ∧ B ≤ o ∧ Ro w e o cap xs := by
  obtain ⟨hl, g, cap, cur, fz, rfl, hB, hg, hn, hc, htk, hf⟩ := h
  subst hl
  exact ⟨g, cap, rfl, hB, cur, fz, hg, hn, hc, htk, hf⟩
/-- Only block o is another one, among those that there were. -/
structure But (o : Nat) (w w' : World) : Prop where
  size : w.heap.size ≤ w'.heap.size
  same : ∀ k, k < w.heap.size → k ≠ o → w'.heap[k]? = w.heap[k]?
  bel : Below o w w'
theorem setCells_other {g k : Nat} (hk : k ≠ g) : ∀ (vs : List Value) (o : Nat) (w : World), (w.setCells g o vs).heap[k]? = w.heap[k]?
  | [], _, _ => rfl
  | v :: r, o, w => (setCells_other hk r (o + 1) _).trans (Below.heap_setCell w ⟨g, o, none⟩ v k hk)

theorem run_append_ro {P : Program} {w : World} {e : TypeId} {o cap : Nat} {xs : List Value} (t ty : TypeId) (i : TypeInfo) (z : Value) (bytes : Nat) (ht : P.underlying t = some (.slice e)) (hi : P.info? e = some i) (hz : i.zero = some z)
    (hsize : i.size = 1) (hby : i.bytes = bytes) (hzs : z.cells.size = 1) (h : Ro w e o cap xs) (a : Addr) (m c : Nat) (ys : List Value) (hl : ys.length = m) (hys : ∀ j u, ys[j]? = some u → w.cell? (a.add j) = some u) (h1 : ∀ u ∈ ys, u.oneCell' = true)
    (hm : 0 < m) (h63 : xs.length + m ≤ maxLen) (hbytes : (xs.length + m) * bytes ≤ 140737488355328) :
    ∃ o' cap' w', (Builtin.append_ #[t, t] ty #[.slice (some ⟨o, 0, none⟩) xs.length cap, .slice (some a) m c]).run P w = .ok (.slice (some ⟨o', 0, none⟩) (xs.length + m) cap') w' ∧ Ro w' e o' cap' (xs ++ ys) ∧ But o w w' ∧ (o' = o ∨ w.heap.size ≤ o') := by
  obtain ⟨cur, fz, hg, hn, hc, htk, hf⟩ := h
  have hgl : o < w.heap.size := (Array.getElem?_eq_some_iff.1 hg).1
  by_cases hroom : xs.length + m ≤ cap
  · have hcell : ∀ j, j < ys.length → (w.cell? ⟨o, 0 + xs.length * i.size + j, none⟩).isSome = true := by
      intro j hj
      simp only [World.cell?, hg]
      rw [hsize, Array.getElem?_eq_getElem (by rw [hc]; omega)]
      rfl
    have hfro : ∀ j, j < ys.length → w.frozen? ⟨o, 0 + xs.length * i.size + j, none⟩ = false := by
      intro j hj
      simp only [World.frozen?, hg]
      rcases hf with rfl | hf
      · simp
      · rw [hsize]; simp; omega
    have hr := run_append_room_cells (P := P) (w := w) t ty e i ht hi o 0 xs.length cap a m c ys (by rw [hl, hsize, Nat.mul_one]) hys h1 hroom hcell hfro
    obtain ⟨cur', k1, k2, k3⟩ := setCells_row o e fz ys (0 + xs.length * i.size) w cur hg (by rw [hsize, hc]; omega)
    have hb : Below o w (w.setCells o (0 + xs.length * i.size) ys) := setCells_below (Nat.le_refl _) _ _ _
    refine ⟨_, _, _, hr, ⟨cur', fz, k1, by rw [List.length_append, hl]; exact hroom, by rw [k2, hc], ?_, hf⟩, ⟨hb.size, fun k _ hk => setCells_other hk _ _ _, hb⟩, .inl rfl⟩
    rw [hsize] at k3
    rw [show 0 + xs.length * 1 = xs.length by omega] at k3
    rw [List.length_append, k3, htk]
  · have hcells := row_cell hg htk rfl
    obtain ⟨v', w', hr, ho, hgr⟩ := run_append_arg_grows (P := P) (w := w) t ty e i z 1 bytes ht hi hz hsize hby hzs (by decide) ⟨o, 0, none⟩ xs.length cap xs (by omega) hcells a m c ys (by rw [hl]; omega) hys (by omega) h63 hbytes
    have hb : Below w.heap.size w w' := (Below.refl _ w).grown hgr (Nat.le_refl _) (fun k hk => by cases hk)
    obtain ⟨ho1, ho2⟩ := ho
    rcases ho2 with ⟨_, h0⟩ | ⟨g2, cap2, cur2, rfl, q1, q2, q3, q4, q5, q6⟩
    · omega
    · refine ⟨g2, cap2, w', hr, ⟨cur2, (0, 0), q2, by rw [List.length_append, hl]; exact q3, by omega, ?_, .inl rfl⟩, ⟨hb.size, fun k hk _ => hb.block k hk, hb.mono (Nat.le_of_lt hgl)⟩, .inr q1⟩
      have e2 : (xs ++ ys).length = (xs.length + m) * 1 := by rw [List.length_append, hl]; omega
      rw [e2]; exact q6
theorem wpList_append_ro {P : Program} {ops : Array Oper} {rest : List Oper} {q : Oper} {a : Act} {Q : Exit → Act → World → Prop} {w : World}
    (hgd : q.guard = none) (s x : Operand) (t : TypeId) (ho : q.op = .call { callee := .builtin .append, args := #[s, x], argTypes := #[t, t] })
    (E : TypeId) (z : Value) (bytes : Nat) (ht : P.underlying t = some (.slice E)) (hinfo : (P.info? E).map (fun i => (i.zero, i.size, i.bytes)) = some (some z, 1, bytes))
    (hzs : z.cells.size = 1) (o cap : Nat) (xs : List Value) (hs : a.eval s = .slice (some ⟨o, 0, none⟩) xs.length cap) (hown : Ro w E o cap xs)
    (A : Addr) (m c : Nat) (ys : List Value) (hx : a.eval x = .slice (some A) m c) (hl : ys.length = m) (hys : ∀ j u, ys[j]? = some u → w.cell? (A.add j) = some u) (h1 : ∀ u ∈ ys, u.oneCell' = true)
    (hm : 0 < m) (hbytes : (xs.length + m) * bytes ≤ 140737488355328) (h63 : xs.length + m ≤ 140737488355328)
    (h : ∀ o' cap' w', Ro w' E o' cap' (xs ++ ys) → But o w w' → (o' = o ∨ w.heap.size ≤ o') → wpList P ops Q rest (a.put q.dst (.slice (some ⟨o', 0, none⟩) (xs.length + m) cap')) w') : wpList P ops Q (q :: rest) a w := by
  refine wpList_plain hgd fun K hK => ?_
  obtain ⟨i0, hi, hz0, hz1, hz2⟩ := info_parts hinfo
  obtain ⟨o', cap', w', hr, hG, hb, hn⟩ := run_append_ro (P := P) t q.type i0 z bytes ht hi hz0 hz1 hz2 hzs hown A m c ys hl hys h1 hm (by unfold maxLen; omega) hbytes
  unfold Oper.wp execOp
  simp only [ho, resolve, invoke, builtin, Sem.run_bind, Sem.run_pure, Result.andThen_ok, List.map_toArray, List.map_cons, List.map_nil, hs, hx, hr]
  exact hK _ _ (h o' cap' w' hG hb hn)
/-- The row as a string. -/
theorem Ro.str {P : Program} {w : World} {e : TypeId} {o cap : Nat} {l : List UInt8} (src dst : TypeId) (hs : P.underlying src = some (.slice e)) (he : P.underlying e = some (.int .u8)) (hd : P.underlying dst = some .string)
    (h : Ro w e o cap (l.map bv)) : (convert src dst (.slice (some ⟨o, 0, none⟩) l.length cap)).run P w = .ok (.string ⟨l.toArray⟩) w := by
  have hg := h.gr
  rw [List.length_map] at hg
  exact hg.str src dst hs he hd
end Go.Proofs.YtepgnnlihnajeaaDoor
