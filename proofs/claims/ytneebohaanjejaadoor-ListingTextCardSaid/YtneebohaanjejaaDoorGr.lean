/- A row of bytes that a conversion of a string made, or that grew out of one, and appending to it. No program in sight. -/
import Derived.Test.YtneebohaanjejaaDoorLib
import Derived.Deep.Upon
import Derived.ArgAppend
import Derived.Lib.ConvBytes
import Derived.Lib.SmallJoins
namespace Go.Proofs.YtneebohaanjejaaDoor
open Go.RowKit

def Gr (w : World) (B : Nat) (e : TypeId) (v : Value) (n : Nat) (xs : List Value) : Prop :=
  xs.length = n ∧ ∃ g cap cur fz, v = .slice (some ⟨g, 0, none⟩) n cap ∧ B ≤ g ∧ w.heap[g]? = some (.cells cur e fz) ∧ n ≤ cap ∧ cur.size = cap ∧ cur.toList.take n = xs ∧ (fz = (0, 0) ∨ cap ≤ fz.1)

theorem Gr.bytes (w : World) (B : Nat) (e : TypeId) (s : ByteArray) (hB : B ≤ w.heap.size) : Gr (Lib.bytesWorld w e s) B e (.slice (some ⟨w.heap.size, 0, none⟩) s.size (grownCap w s.size 0 e)) s.size (s.data.toList.map bv) := by
  have hn := Lib.bytesWorld_at_new w e s
  have hsz : (Lib.bytesCells w e s).size = s.size + (grownCap w s.size 0 e - s.size) := by
    unfold Lib.bytesCells
    rw [Array.size_append, Array.size_map, Array.size_replicate]
    rfl
  refine ⟨by rw [List.length_map]; rfl, w.heap.size, _, _, _, rfl, hB, hn, ?_, ?_, ?_, .inr ?_⟩
  · exact Go.grownCap_ge w s.size 0 e
  · rw [hsz]; have := Go.grownCap_ge w s.size 0 e; omega
  · unfold Lib.bytesCells
    rw [Array.toList_append, Array.toList_map]
    exact List.take_left' (by rw [List.length_map]; rfl)
  · show grownCap w s.size 0 e ≤ (Lib.bytesCells w e s).size
    rw [hsz]
    omega

theorem setCells_row (g : Nat) (e : TypeId) (fz : Nat × Nat) : ∀ (vs : List Value) (o : Nat) (w : World) (cur : Array Value), w.heap[g]? = some (.cells cur e fz) → o + vs.length ≤ cur.size →
    ∃ cur', (w.setCells g o vs).heap[g]? = some (.cells cur' e fz) ∧ cur'.size = cur.size ∧ cur'.toList.take (o + vs.length) = cur.toList.take o ++ vs
  | [], o, w, cur, h, _ => ⟨cur, h, rfl, by simp⟩
  | v :: r, o, w, cur, h, hl => by
    have h1 : (w.setCell ⟨g, o, none⟩ v).heap[g]? = some (.cells (cur.setIfInBounds o v) e fz) := by simp [World.setCell, Array.getElem?_modify, h]
    obtain ⟨cur', k1, k2, k3⟩ := setCells_row g e fz r (o + 1) _ _ h1 (by simp at hl ⊢; omega)
    refine ⟨cur', k1, by simpa using k2, ?_⟩
    have e1 : o + (v :: r).length = o + 1 + r.length := by simp; omega
    rw [e1, k3]
    have e2 : (cur.setIfInBounds o v).toList.take (o + 1) = cur.toList.take o ++ [v] := by
      simp at hl
      rw [Array.toList_setIfInBounds]
      rw [List.take_succ_eq_append_getElem (by simp; omega), List.take_set, List.set_eq_of_length_le (by simp; omega)]
      simp
    rw [e2]
    simp

theorem row_cell {w : World} {g : Nat} {e : TypeId} {fz : Nat × Nat} {cur : Array Value} {n : Nat} {xs : List Value} (hg : w.heap[g]? = some (.cells cur e fz)) (ht : cur.toList.take n = xs) (hl : xs.length = n) :
    ∀ j u, xs[j]? = some u → w.cell? ((⟨g, 0, none⟩ : Addr).add j) = some u := by
  intro j u hj
  have ea : (⟨g, 0, none⟩ : Addr).add j = ⟨g, j, none⟩ := by unfold Addr.add; split <;> simp_all
  rw [ea]
  have hjn : j < n := by rw [← hl]; exact (List.getElem?_eq_some_iff.1 hj).1
  rw [← ht, List.getElem?_take, if_pos hjn] at hj
  simp only [World.cell?, hg]
  rw [← Array.getElem?_toList]
  exact hj
theorem setCells_below {B g : Nat} (hg : B ≤ g) : ∀ (vs : List Value) (o : Nat) (w : World), Below B w (w.setCells g o vs)
  | [], _, w => Below.refl B w
  | v :: r, o, w => ((Below.refl B w).setCell (p := ⟨g, o, none⟩) hg v).trans (setCells_below hg r (o + 1) _)
theorem Gr.cell {w : World} {B : Nat} {e : TypeId} {v : Value} {n : Nat} {xs : List Value} (h : Gr w B e v n xs) : ∃ g cap, v = .slice (some ⟨g, 0, none⟩) n cap ∧ ∀ j u, xs[j]? = some u → w.cell? ((⟨g, 0, none⟩ : Addr).add j) = some u := by
  obtain ⟨hl, g, cap, cur, fz, rfl, hB, hg, hn, hc, ht, hf⟩ := h
  exact ⟨g, cap, rfl, row_cell hg ht hl⟩
theorem Gr.below {w w' : World} {B : Nat} {e : TypeId} {v : Value} {n : Nat} {xs : List Value} (h : Gr w B e v n xs) (hb : Below w.heap.size w w') : Gr w' B e v n xs := by
  obtain ⟨hl, g, cap, cur, fz, rfl, hB, hg, hr⟩ := h
  exact ⟨hl, g, cap, cur, fz, rfl, hB, by rw [hb.block g (Array.getElem?_eq_some_iff.1 hg).1]; exact hg, hr⟩
theorem Gr.drew {w : World} {B : Nat} {e : TypeId} {v : Value} {n : Nat} {xs : List Value} (h : Gr w B e v n xs) : Gr w.drew B e v n xs := h
theorem Gr.alloc {w : World} {B : Nat} {e : TypeId} {v : Value} {n : Nat} {xs : List Value} (h : Gr w B e v n xs) (o : Obj) : Gr (w.alloc o) B e v n xs := h.below ((Below.refl _ w).alloc (Nat.le_refl _) o)

theorem run_append_gr {P : Program} {w : World} {B : Nat} {e : TypeId} {v : Value} {n : Nat} {xs : List Value} (t ty : TypeId) (i : TypeInfo) (z : Value) (bytes : Nat) (ht : P.underlying t = some (.slice e)) (hi : P.info? e = some i) (hz : i.zero = some z)
    (hsize : i.size = 1) (hby : i.bytes = bytes) (hzs : z.cells.size = 1) (h : Gr w B e v n xs) (a : Addr) (m c : Nat) (ys : List Value) (hl : ys.length = m) (hys : ∀ j u, ys[j]? = some u → w.cell? (a.add j) = some u) (h1 : ∀ u ∈ ys, u.oneCell' = true)
    (hm : 0 < m) (h63 : n + m ≤ maxLen) (hbytes : (n + m) * bytes ≤ 140737488355328) (hBw : B ≤ w.heap.size) :
    ∃ v' w', (Builtin.append_ #[t, t] ty #[v, .slice (some a) m c]).run P w = .ok v' w' ∧ Gr w' B e v' (n + m) (xs ++ ys) ∧ Below B w w' := by
  obtain ⟨hxl, g, cap, cur, fz, rfl, hB, hg, hn, hc, htk, hf⟩ := h
  have hgl : g < w.heap.size := (Array.getElem?_eq_some_iff.1 hg).1
  by_cases hroom : n + m ≤ cap
  · have hcell : ∀ j, j < ys.length → (w.cell? ⟨g, 0 + n * i.size + j, none⟩).isSome = true := by
      intro j hj
      simp only [World.cell?, hg]
      rw [hsize, Array.getElem?_eq_getElem (by rw [hc]; omega)]
      rfl
    have hfro : ∀ j, j < ys.length → w.frozen? ⟨g, 0 + n * i.size + j, none⟩ = false := by
      intro j hj
      simp only [World.frozen?, hg]
      rcases hf with rfl | hf
      · simp
      · rw [hsize]; simp; omega
    have hr := run_append_room_cells (P := P) (w := w) t ty e i ht hi g 0 n cap a m c ys (by rw [hl, hsize, Nat.mul_one]) hys h1 hroom hcell hfro
    obtain ⟨cur', k1, k2, k3⟩ := setCells_row g e fz ys (0 + n * i.size) w cur hg (by rw [hsize, hc]; omega)
    refine ⟨_, _, hr, ⟨by rw [List.length_append, hxl, hl], g, cap, cur', fz, rfl, hB, k1, hroom, by rw [k2, hc], ?_, hf⟩, ?_⟩
    · rw [hsize, hl] at k3
      rw [show 0 + n * 1 = n by omega] at k3
      rw [k3, htk]
    · exact setCells_below hB _ _ _
  · have hcells := row_cell hg htk hxl
    obtain ⟨v', w', hr, ho, hgr⟩ := run_append_arg_grows (P := P) (w := w) t ty e i z 1 bytes ht hi hz hsize hby hzs (by decide) ⟨g, 0, none⟩ n cap xs (by rw [hxl]; omega) hcells a m c ys (by rw [hl]; omega) hys (by omega) h63 hbytes
    refine ⟨v', w', hr, ?_, (Below.refl B w).grown hgr hBw (fun k hk => by cases hk)⟩
    obtain ⟨ho1, ho2⟩ := ho
    rcases ho2 with ⟨_, h0⟩ | ⟨g2, cap2, cur2, rfl, q1, q2, q3, q4, q5, q6⟩
    · omega
    · exact ⟨by omega, g2, cap2, cur2, (0, 0), rfl, Nat.le_trans hBw q1, q2, q3, by omega, by rw [← q6]; congr 1; omega, .inl rfl⟩

theorem step_append_gr {P : Program} {ops : Array Oper} {o : Oper} {a : Act} {K : Act → World → Prop} {Q : Exit → Act → World → Prop} {X : Prop} {w : World}
    (hgd : o.guard = none) (s x : Operand) (t : TypeId) (ho : o.op = .call { callee := .builtin .append, args := #[s, x], argTypes := #[t, t] })
    (B : Nat) (E : TypeId) (z : Value) (bytes : Nat) (ht : P.underlying t = some (.slice E)) (hinfo : (P.info? E).map (fun i => (i.zero, i.size, i.bytes)) = some (some z, 1, bytes))
    (hzs : z.cells.size = 1) (v : Value) (n : Nat) (xs : List Value) (hs : a.eval s = v) (hown : Gr w B E v n xs)
    (A : Addr) (m c : Nat) (ys : List Value) (hx : a.eval x = .slice (some A) m c) (hl : ys.length = m) (hys : ∀ j u, ys[j]? = some u → w.cell? (A.add j) = some u) (h1 : ∀ u ∈ ys, u.oneCell' = true)
    (hm : 0 < m) (hbytes : (n + m) * bytes ≤ 140737488355328) (h63 : n + m ≤ 140737488355328) (hB : B ≤ w.heap.size)
    (h : ∀ v' w', Gr w' B E v' (n + m) (xs ++ ys) → Below B w w' → K (a.put o.dst v') w') :
    if Region.wanted o (yielded ops a.tmps) = true then Oper.wp P o a w K Q else X := by
  obtain ⟨i0, hi, hz0, hz1, hz2⟩ := info_parts hinfo
  rw [if_pos (by simp [Region.wanted, hgd])]
  obtain ⟨v', w', hr, hG, hb⟩ := run_append_gr (P := P) t o.type i0 z bytes ht hi hz0 hz1 hz2 hzs hown A m c ys hl hys h1 hm (by unfold maxLen; omega) hbytes hB
  unfold Oper.wp execOp
  simp only [ho, resolve, invoke, builtin, Sem.run_bind, Sem.run_pure, Result.andThen_ok, List.map_toArray, List.map_cons, List.map_nil, hs, hx, hr]
  exact h v' w' hG hb
theorem wpList_append_gr {P : Program} {ops : Array Oper} {rest : List Oper} {o : Oper} {a : Act} {Q : Exit → Act → World → Prop} {w : World}
    (hgd : o.guard = none) (s x : Operand) (t : TypeId) (ho : o.op = .call { callee := .builtin .append, args := #[s, x], argTypes := #[t, t] })
    (B : Nat) (E : TypeId) (z : Value) (bytes : Nat) (ht : P.underlying t = some (.slice E)) (hinfo : (P.info? E).map (fun i => (i.zero, i.size, i.bytes)) = some (some z, 1, bytes))
    (hzs : z.cells.size = 1) (v : Value) (n : Nat) (xs : List Value) (hs : a.eval s = v) (hown : Gr w B E v n xs)
    (A : Addr) (m c : Nat) (ys : List Value) (hx : a.eval x = .slice (some A) m c) (hl : ys.length = m) (hys : ∀ j u, ys[j]? = some u → w.cell? (A.add j) = some u) (h1 : ∀ u ∈ ys, u.oneCell' = true)
    (hm : 0 < m) (hbytes : (n + m) * bytes ≤ 140737488355328) (h63 : n + m ≤ 140737488355328) (hB : B ≤ w.heap.size)
    (h : ∀ v' w', Gr w' B E v' (n + m) (xs ++ ys) → Below B w w' → wpList P ops Q rest (a.put o.dst v') w') : wpList P ops Q (o :: rest) a w := by
  refine wpList_plain hgd fun K hK => ?_
  have hst := step_append_gr (ops := ops) (K := K) (Q := Q) (X := True) hgd s x t ho B E z bytes ht hinfo hzs v n xs hs hown A m c ys hx hl hys h1 hm hbytes h63 hB (fun v' w' h1 h2 => hK _ _ (h v' w' h1 h2))
  rwa [if_pos (by simp [Region.wanted, hgd])] at hst
/-- A row of bytes as a string. -/
theorem Gr.str {P : Program} {w : World} {B : Nat} {e : TypeId} {v : Value} {n : Nat} {l : List UInt8} (src dst : TypeId) (hs : P.underlying src = some (.slice e)) (he : P.underlying e = some (.int .u8)) (hd : P.underlying dst = some .string)
    (h : Gr w B e v n (l.map bv)) : (convert src dst v).run P w = .ok (.string ⟨l.toArray⟩) w := by
  have hl := h.1
  obtain ⟨g, cap, rfl, hc⟩ := h.cell
  rw [List.length_map] at hl
  have hr := run_convert_bytes_back w src dst e ⟨g, 0, none⟩ cap l hs he hd (fun j hj => hc j _ (by rw [List.getElem?_map, List.getElem?_eq_getElem hj]; rfl))
  rwa [hl] at hr
/-- A literal's cells. -/
theorem lit_cells (W : World) (E : TypeId) (cs : Array Value) : ∀ j u, cs.toList[j]? = some u → (W.alloc (.cells cs E)).cell? ((⟨W.heap.size, 0, none⟩ : Addr).add j) = some u :=
  row_cell (heap_alloc_new W _) (by rw [List.take_of_length_le (Nat.le_refl _)]) rfl
end Go.Proofs.YtneebohaanjejaaDoor
