/- A row of bytes that a conversion of a string made, or that grew out of one, and appending to it. No program in sight. -/
/- A row of bytes in a block of its own, and appending to it: all other blocks stay. No program in sight. -/
/- Layer 50: the document's machine: its state in memory; set, jump, walked. -/
import Derived.Deep.Upon
import Derived.ArgAppend
import Derived.Lib.ConvBytes
import Derived.Lib.SmallJoins
import Derived.Test.YthfdjfgmgoafnaaDoorLib
import Derived.Test.YthfdjfgmgoafnaaDoorSdM
import Derived.Test.YthfdjfgmgoafnaaDoorHxA
namespace Go.Proofs.YthfdjfgmgoafnaaDoor
open Go.RowKit

def Gr (w : World) (B : Nat) (e : TypeId) (v : Value) (n : Nat) (xs : List Value) : Prop :=
  xs.length = n ∧ ∃ g cap cur fz, v = .slice (some ⟨g, 0, none⟩) n cap ∧ B ≤ g ∧ w.heap[g]? = some (.cells cur e fz) ∧ n ≤ cap ∧ cur.size = cap ∧ cur.toList.take n = xs ∧ (fz = (0, 0) ∨ cap ≤ fz.1)

theorem Gr.bytes (w : World) (B : Nat) (e : TypeId) (s : ByteArray) (hB : B ≤ w.heap.size) : Gr (Lib.bytesWorld w e s) B e (.slice (some ⟨w.heap.size, 0, none⟩) s.size (grownCap w s.size 0 e)) s.size (s.data.toList.map bv) := by
  have hn := Lib.bytesWorld_at_new w e s
  have hsz : (Lib.bytesCells w e s).size = s.size + (grownCap w s.size 0 e - s.size) := by
    unfold Lib.bytesCells
    rw [Array.size_append, Array.size_map, Array.size_replicate]
    rfl
  refine ⟨by rw [List.length_map]; rfl, w.heap.size, _, _, _, rfl, hB, hn, ?_, ?_, ?_, .inr ?_⟩
  · exact Go.grownCap_ge w s.size 0 e
  · rw [hsz]; have := Go.grownCap_ge w s.size 0 e; omega
  · unfold Lib.bytesCells
    rw [Array.toList_append, Array.toList_map]
    exact List.take_left' (by rw [List.length_map]; rfl)
  · show grownCap w s.size 0 e ≤ (Lib.bytesCells w e s).size
    rw [hsz]
    omega

theorem setCells_row (g : Nat) (e : TypeId) (fz : Nat × Nat) : ∀ (vs : List Value) (o : Nat) (w : World) (cur : Array Value), w.heap[g]? = some (.cells cur e fz) → o + vs.length ≤ cur.size →
    ∃ cur', (w.setCells g o vs).heap[g]? = some (.cells cur' e fz) ∧ cur'.size = cur.size ∧ cur'.toList.take (o + vs.length) = cur.toList.take o ++ vs
  | [], o, w, cur, h, _ => ⟨cur, h, rfl, by simp⟩
  | v :: r, o, w, cur, h, hl => by
    have h1 : (w.setCell ⟨g, o, none⟩ v).heap[g]? = some (.cells (cur.setIfInBounds o v) e fz) := by simp [World.setCell, Array.getElem?_modify, h]
    obtain ⟨cur', k1, k2, k3⟩ := setCells_row g e fz r (o + 1) _ _ h1 (by simp at hl ⊢; omega)
    refine ⟨cur', k1, by simpa using k2, ?_⟩
    have e1 : o + (v :: r).length = o + 1 + r.length := by simp; omega
    rw [e1, k3]
    have e2 : (cur.setIfInBounds o v).toList.take (o + 1) = cur.toList.take o ++ [v] := by
      simp at hl
      rw [Array.toList_setIfInBounds]
      rw [List.take_succ_eq_append_getElem (by simp; omega), List.take_set, List.set_eq_of_length_le (by simp; omega)]
      simp
    rw [e2]
    simp

theorem row_cell {w : World} {g : Nat} {e : TypeId} {fz : Nat × Nat} {cur : Array Value} {n : Nat} {xs : List Value} (hg : w.heap[g]? = some (.cells cur e fz)) (ht : cur.toList.take n = xs) (hl : xs.length = n) :
    ∀ j u, xs[j]? = some u → w.cell? ((⟨g, 0, none⟩ : Addr).add j) = some u := by
  intro j u hj
  have ea : (⟨g, 0, none⟩ : Addr).add j = ⟨g, j, none⟩ := by unfold Addr.add; split <;> simp_all
  rw [ea]
  have hjn : j < n := by rw [← hl]; exact (List.getElem?_eq_some_iff.1 hj).1
  rw [← ht, List.getElem?_take, if_pos hjn] at hj
  simp only [World.cell?, hg]
  rw [← Array.getElem?_toList]
  exact hj
theorem setCells_below {B g : Nat} (hg : B ≤ g) : ∀ (vs : List Value) (o : Nat) (w : World), Below B w (w.setCells g o vs)
  | [], _, w => Below.refl B w
  | v :: r, o, w => ((Below.refl B w).setCell (p := ⟨g, o, none⟩) hg v).trans (setCells_below hg r (o + 1) _)
theorem Gr.cell {w : World} {B : Nat} {e : TypeId} {v : Value} {n : Nat} {xs : List Value} (h : Gr w B e v n xs) : ∃ g cap, v = .slice (some ⟨g, 0, none⟩) n cap ∧ ∀ j u, xs[j]? = some u → w.cell? ((⟨g, 0, none⟩ : Addr).add j) = some u := by
  obtain ⟨hl, g, cap, cur, fz, rfl, hB, hg, hn, hc, ht, hf⟩ := h
  exact ⟨g, cap, rfl, row_cell hg ht hl⟩
theorem Gr.below {w w' : World} {B : Nat} {e : TypeId} {v : Value} {n : Nat} {xs : List Value} (h : Gr w B e v n xs) (hb : Below w.heap.size w w') : Gr w' B e v n xs := by
  obtain ⟨hl, g, cap, cur, fz, rfl, hB, hg, hr⟩ := h
  exact ⟨hl, g, cap, cur, fz, rfl, hB, by rw [hb.block g (Array.getElem?_eq_some_iff.1 hg).1]; exact hg, hr⟩
theorem Gr.drew {w : World} {B : Nat} {e : TypeId} {v : Value} {n : Nat} {xs : List Value} (h : Gr w B e v n xs) : Gr w.drew B e v n xs := h
theorem Gr.alloc {w : World} {B : Nat} {e : TypeId} {v : Value} {n : Nat} {xs : List Value} (h : Gr w B e v n xs) (o : Obj) : Gr (w.alloc o) B e v n xs := h.below ((Below.refl _ w).alloc (Nat.le_refl _) o)

theorem run_append_gr {P : Program} {w : World} {B : Nat} {e : TypeId} {v : Value} {n : Nat} {xs : List Value} (t ty : TypeId) (i : TypeInfo) (z : Value) (bytes : Nat) (ht : P.underlying t = some (.slice e)) (hi : P.info? e = some i) (hz : i.zero = some z)
    (hsize : i.size = 1) (hby : i.bytes = bytes) (hzs : z.cells.size = 1) (h : Gr w B e v n xs) (a : Addr) (m c : Nat) (ys : List Value) (hl : ys.length = m) (hys : ∀ j u, ys[j]? = some u → w.cell? (a.add j) = some u) (h1 : ∀ u ∈ ys, u.oneCell' = true)
    (hm : 0 < m) (h63 : n + m ≤ maxLen) (hbytes : (n + m) * bytes ≤ 140737488355328) (hBw : B ≤ w.heap.size) :
    ∃ v' w', (Builtin.append_ #[t, t] ty #[v, .slice (some a) m c]).run P w = .ok v' w' ∧ Gr w' B e v' (n + m) (xs ++ ys) ∧ Below B w w' := by
  obtain ⟨hxl, g, cap, cur, fz, rfl, hB, hg, hn, hc, htk, hf⟩ := h
  have hgl : g < w.heap.size := (Array.getElem?_eq_some_iff.1 hg).1
  by_cases hroom : n + m ≤ cap
  · have hcell : ∀ j, j < ys.length → (w.cell? ⟨g, 0 + n * i.size + j, none⟩).isSome = true := by
      intro j hj
      simp only [World.cell?, hg]
      rw [hsize, Array.getElem?_eq_getElem (by rw [hc]; omega)]
      rfl
    have hfro : ∀ j, j < ys.length → w.frozen? ⟨g, 0 + n * i.size + j, none⟩ = false := by
      intro j hj
      simp only [World.frozen?, hg]
      rcases hf with rfl | hf
      · simp
      · rw [hsize]; simp; omega
    have hr := run_append_room_cells (P := P) (w := w) t ty e i ht hi g 0 n cap a m c ys (by rw [hl, hsize, Nat.mul_one]) hys h1 hroom hcell hfro
    obtain ⟨cur', k1, k2, k3⟩ := setCells_row g e fz ys (0 + n * i.size) w cur hg (by rw [hsize, hc]; omega)
    refine ⟨_, _, hr, ⟨by rw [List.length_append, hxl, hl], g, cap, cur', fz, rfl, hB, k1, hroom, by rw [k2, hc], ?_, hf⟩, ?_⟩
    · rw [hsize, hl] at k3
      rw [show 0 + n * 1 = n by omega] at k3
      rw [k3, htk]
    · exact setCells_below hB _ _ _
  · have hcells := row_cell hg htk hxl
    obtain ⟨v', w', hr, ho, hgr⟩ := run_append_arg_grows (P := P) (w := w) t ty e i z 1 bytes ht hi hz hsize hby hzs (by decide) ⟨g, 0, none⟩ n cap xs (by rw [hxl]; omega) hcells a m c ys (by rw [hl]; omega) hys (by omega) h63 hbytes
    refine ⟨v', w', hr, ?_, (Below.refl B w).grown hgr hBw (fun k hk => by cases hk)⟩
    obtain ⟨ho1, ho2⟩ := ho
    rcases ho2 with ⟨_, h0⟩ | ⟨g2, cap2, cur2, rfl, q1, q2, q3, q4, q5, q6⟩
    · omega
    · exact ⟨by omega, g2, cap2, cur2, (0, 0), rfl, Nat.le_trans hBw q1, q2, q3, by omega, by rw [← q6]; congr 1; omega, .inl rfl⟩

theorem step_append_gr {P : Program} {ops : Array Oper} {o : Oper} {a : Act} {K : Act → World → Prop} {Q : Exit → Act → World → Prop} {X : Prop} {w : World}
    (hgd : o.guard = none) (s x : Operand) (t : TypeId) (ho : o.op = .call { callee := .builtin .append, args := #[s, x], argTypes := #[t, t] })
    (B : Nat) (E : TypeId) (z : Value) (bytes : Nat) (ht : P.underlying t = some (.slice E)) (hinfo : (P.info? E).map (fun i => (i.zero, i.size, i.bytes)) = some (some z, 1, bytes))
    (hzs : z.cells.size = 1) (v : Value) (n : Nat) (xs : List Value) (hs : a.eval s = v) (hown : Gr w B E v n xs)
    (A : Addr) (m c : Nat) (ys : List Value) (hx : a.eval x = .slice (some A) m c) (hl : ys.length = m) (hys : ∀ j u, ys[j]? = some u → w.cell? (A.add j) = some u) (h1 : ∀ u ∈ ys, u.oneCell' = true)
    (hm : 0 < m) (hbytes : (n + m) * bytes ≤ 140737488355328) (h63 : n + m ≤ 140737488355328) (hB : B ≤ w.heap.size)
    (h : ∀ v' w', Gr w' B E v' (n + m) (xs ++ ys) → Below B w w' → K (a.put o.dst v') w') :
    if Region.wanted o (yielded ops a.tmps) = true then Oper.wp P o a w K Q else X := by
  obtain ⟨i0, hi, hz0, hz1, hz2⟩ := info_parts hinfo
  rw [if_pos (by simp [Region.wanted, hgd])]
  obtain ⟨v', w', hr, hG, hb⟩ := run_append_gr (P := P) t o.type i0 z bytes ht hi hz0 hz1 hz2 hzs hown A m c ys hl hys h1 hm (by unfold maxLen; omega) hbytes hB
  unfold Oper.wp execOp
  simp only [ho, resolve, invoke, builtin, Sem.run_bind, Sem.run_pure, Result.andThen_ok, List.map_toArray, List.map_cons, List.map_nil, hs, hx, hr]
  exact h v' w' hG hb
theorem wpList_append_gr {P : Program} {ops : Array Oper} {rest : List Oper} {o : Oper} {a : Act} {Q : Exit → Act → World → Prop} {w : World}
    (hgd : o.guard = none) (s x : Operand) (t : TypeId) (ho : o.op = .call { callee := .builtin .append, args := #[s, x], argTypes := #[t, t] })
    (B : Nat) (E : TypeId) (z : Value) (bytes : Nat) (ht : P.underlying t = some (.slice E)) (hinfo : (P.info? E).map (fun i => (i.zero, i.size, i.bytes)) = some (some z, 1, bytes))
    (hzs : z.cells.size = 1) (v : Value) (n : Nat) (xs : List Value) (hs : a.eval s = v) (hown : Gr w B E v n xs)
    (A : Addr) (m c : Nat) (ys : List Value) (hx : a.eval x = .slice (some A) m c) (hl : ys.length = m) (hys : ∀ j u, ys[j]? = some u → w.cell? (A.add j) = some u) (h1 : ∀ u ∈ ys, u.oneCell' = true)
    (hm : 0 < m) (hbytes : (n + m) * bytes ≤ 140737488355328) (h63 : n + m ≤ 140737488355328) (hB : B ≤ w.heap.size)
    (h : ∀ v' w', Gr w' B E v' (n + m) (xs ++ ys) → Below B w w' → wpList P ops Q rest (a.put o.dst v') w') : wpList P ops Q (o :: rest) a w := by
  refine wpList_plain hgd fun K hK => ?_
  have hst := step_append_gr (ops := ops) (K := K) (Q := Q) (X := True) hgd s x t ho B E z bytes ht hinfo hzs v n xs hs hown A m c ys hx hl hys h1 hm hbytes h63 hB (fun v' w' h1 h2 => hK _ _ (h v' w' h1 h2))
  rwa [if_pos (by simp [Region.wanted, hgd])] at hst
/-- A row of bytes as a string. -/
theorem Gr.str {P : Program} {w : World} {B : Nat} {e : TypeId} {v : Value} {n : Nat} {l : List UInt8} (src dst : TypeId) (hs : P.underlying src = some (.slice e)) (he : P.underlying e = some (.int .u8)) (hd : P.underlying dst = some .string)
    (h : Gr w B e v n (l.map bv)) : (convert src dst v).run P w = .ok (.string ⟨l.toArray⟩) w := by
  have hl := h.1
  obtain ⟨g, cap, rfl, hc⟩ := h.cell
  rw [List.length_map] at hl
  have hr := run_convert_bytes_back w src dst e ⟨g, 0, none⟩ cap l hs he hd (fun j hj => hc j _ (by rw [List.getElem?_map, List.getElem?_eq_getElem hj]; rfl))
  rwa [hl] at hr
/-- A literal's cells. -/
theorem lit_cells (W : World) (E : TypeId) (cs : Array Value) : ∀ j u, cs.toList[j]? = some u → (W.alloc (.cells cs E)).cell? ((⟨W.heap.size, 0, none⟩ : Addr).add j) = some u :=
  row_cell (heap_alloc_new W _) (by rw [List.take_of_length_le (Nat.le_refl _)]) rfl
end Go.Proofs.YthfdjfgmgoafnaaDoor
namespace Go.Proofs.YthfdjfgmgoafnaaDoor
open Go.RowKit

def Ro (w : World) (e : TypeId) (o cap : Nat) (xs : List Value) : Prop :=
  ∃ cur fz, w.heap[o]? = some (.cells cur e fz) ∧ xs.length ≤ cap ∧ cur.size = cap ∧ cur.toList.take xs.length = xs ∧ (fz = (0, 0) ∨ cap ≤ fz.1)
theorem Ro.lt {w : World} {e : TypeId} {o cap : Nat} {xs : List Value} (h : Ro w e o cap xs) : o < w.heap.size := by
  obtain ⟨cur, fz, hg, _⟩ := h
  exact (Array.getElem?_eq_some_iff.1 hg).1
theorem Ro.same {w w' : World} {e : TypeId} {o cap : Nat} {xs : List Value} (h : Ro w e o cap xs) (hs : w'.heap[o]? = w.heap[o]?) : Ro w' e o cap xs := by
  obtain ⟨cur, fz, hg, r⟩ := h
  exact ⟨cur, fz, hs.trans hg, r⟩
theorem Ro.gr {w : World} {e : TypeId} {o cap : Nat} {xs : List Value} (h : Ro w e o cap xs) : Gr w o e (.slice (some ⟨o, 0, none⟩) xs.length cap) xs.length xs := by
  obtain ⟨cur, fz, hg, h1, h2, h3, h4⟩ := h
  exact ⟨rfl, o, cap, cur, fz, rfl, Nat.le_refl _, hg, h1, h2, h3, h4⟩
theorem Ro.of_gr {w : World} {B : Nat} {e : TypeId} {v : Value} {n : Nat} {xs : List Value} (h : Gr w B e v n xs) : ∃ o cap, v = .slice (some ⟨o, 0, none⟩) xs.length cap ∧ B ≤ o ∧ Ro w e o cap xs := by
  obtain ⟨hl, g, cap, cur, fz, rfl, hB, hg, hn, hc, htk, hf⟩ := h
  subst hl
  exact ⟨g, cap, rfl, hB, cur, fz, hg, hn, hc, htk, hf⟩
/-- Only block o is another one, among those that there were. -/
structure But (o : Nat) (w w' : World) : Prop where
  size : w.heap.size ≤ w'.heap.size
  same : ∀ k, k < w.heap.size → k ≠ o → w'.heap[k]? = w.heap[k]?
  bel : Below o w w'
theorem setCells_other {g k : Nat} (hk : k ≠ g) : ∀ (vs : List Value) (o : Nat) (w : World), (w.setCells g o vs).heap[k]? = w.heap[k]?
  | [], _, _ => rfl
  | v :: r, o, w => (setCells_other hk r (o + 1) _).trans (Below.heap_setCell w ⟨g, o, none⟩ v k hk)

theorem run_append_ro {P : Program} {w : World} {e : TypeId} {o cap : Nat} {xs : List Value} (t ty : TypeId) (i : TypeInfo) (z : Value) (bytes : Nat) (ht : P.underlying t = some (.slice e)) (hi : P.info? e = some i) (hz : i.zero = some z)
    (hsize : i.size = 1) (hby : i.bytes = bytes) (hzs : z.cells.size = 1) (h : Ro w e o cap xs) (a : Addr) (m c : Nat) (ys : List Value) (hl : ys.length = m) (hys : ∀ j u, ys[j]? = some u → w.cell? (a.add j) = some u) (h1 : ∀ u ∈ ys, u.oneCell' = true)
    (hm : 0 < m) (h63 : xs.length + m ≤ maxLen) (hbytes : (xs.length + m) * bytes ≤ 140737488355328) :
    ∃ o' cap' w', (Builtin.append_ #[t, t] ty #[.slice (some ⟨o, 0, none⟩) xs.length cap, .slice (some a) m c]).run P w = .ok (.slice (some ⟨o', 0, none⟩) (xs.length + m) cap') w' ∧ Ro w' e o' cap' (xs ++ ys) ∧ But o w w' ∧ (o' = o ∨ w.heap.size ≤ o') := by
  obtain ⟨cur, fz, hg, hn, hc, htk, hf⟩ := h
  have hgl : o < w.heap.size := (Array.getElem?_eq_some_iff.1 hg).1
  by_cases hroom : xs.length + m ≤ cap
  · have hcell : ∀ j, j < ys.length → (w.cell? ⟨o, 0 + xs.length * i.size + j, none⟩).isSome = true := by
      intro j hj
      simp only [World.cell?, hg]
      rw [hsize, Array.getElem?_eq_getElem (by rw [hc]; omega)]
      rfl
    have hfro : ∀ j, j < ys.length → w.frozen? ⟨o, 0 + xs.length * i.size + j, none⟩ = false := by
      intro j hj
      simp only [World.frozen?, hg]
      rcases hf with rfl | hf
      · simp
      · rw [hsize]; simp; omega
    have hr := run_append_room_cells (P := P) (w := w) t ty e i ht hi o 0 xs.length cap a m c ys (by rw [hl, hsize, Nat.mul_one]) hys h1 hroom hcell hfro
    obtain ⟨cur', k1, k2, k3⟩ := setCells_row o e fz ys (0 + xs.length * i.size) w cur hg (by rw [hsize, hc]; omega)
    have hb : Below o w (w.setCells o (0 + xs.length * i.size) ys) := setCells_below (Nat.le_refl _) _ _ _
    refine ⟨_, _, _, hr, ⟨cur', fz, k1, by rw [List.length_append, hl]; exact hroom, by rw [k2, hc], ?_, hf⟩, ⟨hb.size, fun k _ hk => setCells_other hk _ _ _, hb⟩, .inl rfl⟩
    rw [hsize] at k3
    rw [show 0 + xs.length * 1 = xs.length by omega] at k3
    rw [List.length_append, k3, htk]
  · have hcells := row_cell hg htk rfl
    obtain ⟨v', w', hr, ho, hgr⟩ := run_append_arg_grows (P := P) (w := w) t ty e i z 1 bytes ht hi hz hsize hby hzs (by decide) ⟨o, 0, none⟩ xs.length cap xs (by omega) hcells a m c ys (by rw [hl]; omega) hys (by omega) h63 hbytes
    have hb : Below w.heap.size w w' := (Below.refl _ w).grown hgr (Nat.le_refl _) (fun k hk => by cases hk)
    obtain ⟨ho1, ho2⟩ := ho
    rcases ho2 with ⟨_, h0⟩ | ⟨g2, cap2, cur2, rfl, q1, q2, q3, q4, q5, q6⟩
    · omega
    · refine ⟨g2, cap2, w', hr, ⟨cur2, (0, 0), q2, by rw [List.length_append, hl]; exact q3, by omega, ?_, .inl rfl⟩, ⟨hb.size, fun k hk _ => hb.block k hk, hb.mono (Nat.le_of_lt hgl)⟩, .inr q1⟩
      have e2 : (xs ++ ys).length = (xs.length + m) * 1 := by rw [List.length_append, hl]; omega
      rw [e2]; exact q6
theorem wpList_append_ro {P : Program} {ops : Array Oper} {rest : List Oper} {q : Oper} {a : Act} {Q : Exit → Act → World → Prop} {w : World}
    (hgd : q.guard = none) (s x : Operand) (t : TypeId) (ho : q.op = .call { callee := .builtin .append, args := #[s, x], argTypes := #[t, t] })
    (E : TypeId) (z : Value) (bytes : Nat) (ht : P.underlying t = some (.slice E)) (hinfo : (P.info? E).map (fun i => (i.zero, i.size, i.bytes)) = some (some z, 1, bytes))
    (hzs : z.cells.size = 1) (o cap : Nat) (xs : List Value) (hs : a.eval s = .slice (some ⟨o, 0, none⟩) xs.length cap) (hown : Ro w E o cap xs)
    (A : Addr) (m c : Nat) (ys : List Value) (hx : a.eval x = .slice (some A) m c) (hl : ys.length = m) (hys : ∀ j u, ys[j]? = some u → w.cell? (A.add j) = some u) (h1 : ∀ u ∈ ys, u.oneCell' = true)
    (hm : 0 < m) (hbytes : (xs.length + m) * bytes ≤ 140737488355328) (h63 : xs.length + m ≤ 140737488355328)
    (h : ∀ o' cap' w', Ro w' E o' cap' (xs ++ ys) → But o w w' → (o' = o ∨ w.heap.size ≤ o') → wpList P ops Q rest (a.put q.dst (.slice (some ⟨o', 0, none⟩) (xs.length + m) cap')) w') : wpList P ops Q (q :: rest) a w := by
  refine wpList_plain hgd fun K hK => ?_
  obtain ⟨i0, hi, hz0, hz1, hz2⟩ := info_parts hinfo
  obtain ⟨o', cap', w', hr, hG, hb, hn⟩ := run_append_ro (P := P) t q.type i0 z bytes ht hi hz0 hz1 hz2 hzs hown A m c ys hl hys h1 hm (by unfold maxLen; omega) hbytes
  unfold Oper.wp execOp
  simp only [ho, resolve, invoke, builtin, Sem.run_bind, Sem.run_pure, Result.andThen_ok, List.map_toArray, List.map_cons, List.map_nil, hs, hx, hr]
  exact hK _ _ (h o' cap' w' hG hb hn)
/-- The row as a string. -/
theorem Ro.str {P : Program} {w : World} {e : TypeId} {o cap : Nat} {l : List UInt8} (src dst : TypeId) (hs : P.underlying src = some (.slice e)) (he : P.underlying e = some (.int .u8)) (hd : P.underlying dst = some .string)
    (h : Ro w e o cap (l.map bv)) : (convert src dst (.slice (some ⟨o, 0, none⟩) l.length cap)).run P w = .ok (.string ⟨l.toArray⟩) w := by
  have hg := h.gr
  rw [List.length_map] at hg
  exact hg.str src dst hs he hd
end Go.Proofs.YthfdjfgmgoafnaaDoor
namespace Go.Proofs.YthfdjfgmgoafnaaDoor
open Go.RowKit

/-- What a run is made of: the boxes' numbers, the slices, the input. -/
structure Env where
  B : Nat
  g : Nat
  c : Nat
  cb : Nat
  kb : Nat
  mem : Value
  words : Value
  inp : ByteArray
def wcells (E : Env) (s : Ms) (v : Value) : Array Value :=
  #[.int .i64 s.pc, .int .u32 (s.reg 0).toNat, .int .u32 (s.reg 1).toNat, .int .u32 (s.reg 2).toNat, .int .u32 (s.reg 3).toNat, .int .u32 (s.reg 4).toNat, .int .u32 (s.reg 5).toNat, .int .u32 (s.reg 6).toNat, .int .u32 (s.reg 7).toNat, .int .u32 (s.reg 8).toNat, .int .u32 (s.reg 9).toNat, .int .u32 (s.reg 10).toNat, .int .u32 (s.reg 11).toNat, .int .u32 (s.reg 12).toNat, .int .u32 (s.reg 13).toNat, .int .u32 (s.reg 14).toNat, .int .u32 (s.reg 15).toNat, E.mem, .int .i64 s.rd, .string ⟨#[]⟩, .int .i64 s.st, .int .i64 s.fin, v, .slice (some ⟨E.cb, 0, none⟩) 34 34, .slice (some ⟨E.kb, 0, none⟩) 34 34, E.words, .string E.inp, .slice (some ⟨E.c, 0, none⟩) 34 34]
theorem cell_same {w w' : World} {p : Addr} (h : w'.heap[p.block]? = w.heap[p.block]?) : w'.cell? p = w.cell? p := by
  unfold World.cell?; rw [h]
/-- The cells of the code, as instructions. -/
def CodeAt (cb : Nat) (W : World) : Prop := ∀ (k op a b c : Nat), seedP[k]? = some (op, a, b, c) → W.cell? ⟨cb, k * 4, none⟩ = some (.int .i64 op) ∧ W.cell? ⟨cb, k * 4 + 1, none⟩ = some (.int .i64 a) ∧ W.cell? ⟨cb, k * 4 + 2, none⟩ = some (.int .i64 b) ∧ W.cell? ⟨cb, k * 4 + 3, none⟩ = some (.int .i64 c)
def OkAt (kb : Nat) (W : World) : Prop := ∀ k, k < 34 → W.cell? ⟨kb, k, none⟩ = some (.bool true)
structure Cnt (c : Nat) (n : Nat) (W : World) : Prop where
  h : ∃ arr, Blk W c 3 arr ∧ ∀ k, k < 34 → ∃ m : Nat, arr[k]? = some (.int .i64 m) ∧ m ≤ n
theorem Cnt.same {c n : Nat} {W W' : World} (h : Cnt c n W) (e : W'.heap[c]? = W.heap[c]?) : Cnt c n W' := by
  obtain ⟨arr, hB, r⟩ := h.h
  exact ⟨arr, e.trans hB, r⟩
theorem Cnt.more {c n m : Nat} {W : World} (h : Cnt c n W) (hn : n ≤ m) : Cnt c m W := by
  obtain ⟨arr, hB, r⟩ := h.h
  exact ⟨arr, hB, fun k hk => by obtain ⟨x, h1, h2⟩ := r k hk; exact ⟨x, h1, by omega⟩⟩
theorem Cnt.get {c n : Nat} {W : World} (h : Cnt c n W) {k : Nat} (hk : k < 34) : ∃ m : Nat, W.cell? ⟨c, k, none⟩ = some (.int .i64 m) ∧ W.frozen? ⟨c, k, none⟩ = false ∧ m ≤ n := by
  obtain ⟨arr, hB, r⟩ := h.h
  obtain ⟨m, h1, h2⟩ := r k hk
  exact ⟨m, (hB.cell k).trans h1, hB.frozen k, h2⟩
theorem Cnt.put {c n k m : Nat} {W : World} (h : Cnt c n W) (hm : m ≤ n) : Cnt c n (W.setCell ⟨c, k, none⟩ (.int .i64 m)) := by
  obtain ⟨arr, hB, r⟩ := h.h
  refine ⟨_, hB.set k _, fun j hj => ?_⟩
  obtain ⟨m', h1, h2⟩ := r j hj
  by_cases e : k = j
  · subst e
    exact ⟨m, by rw [Array.getElem?_setIfInBounds_self_of_lt (Array.getElem?_eq_some_iff.1 h1).1], hm⟩
  · exact ⟨m', by rw [Array.getElem?_setIfInBounds_ne e]; exact h1, h2⟩
structure Apart (E : Env) (o : Nat) : Prop where
  gc : E.g ≠ E.c
  gcb : E.g ≠ E.cb
  gkb : E.g ≠ E.kb
  ccb : E.c ≠ E.cb
  ckb : E.c ≠ E.kb
  og : o ≠ E.g
  oc : o ≠ E.c
  ocb : o ≠ E.cb
  okb : o ≠ E.kb
  bg : E.B ≤ E.g
  bc : E.B ≤ E.c
  bo : E.B ≤ o
/-- A run's state in memory. -/
structure Wk (E : Env) (o cap : Nat) (s : Ms) (W : World) : Prop where
  bx : Blk W E.g 125 (wcells E s (.slice (some ⟨o, 0, none⟩) s.out.length cap))
  out : Ro W 5 o cap (s.out.map bv)
  code : CodeAt E.cb W
  ok : OkAt E.kb W
  cnt : Cnt E.c s.st W
  ap : Apart E o
  lcb : E.cb < W.heap.size
  lkb : E.kb < W.heap.size
section
variable {E : Env} {o cap : Nat} {s : Ms} {W W' : World}
theorem CodeAt.same {cb : Nat} (h : CodeAt cb W) (e : W'.heap[cb]? = W.heap[cb]?) : CodeAt cb W' := fun k op a b c hk => by
  obtain ⟨h0, h1, h2, h3⟩ := h k op a b c hk
  exact ⟨(cell_same (p := ⟨cb, k * 4, none⟩) e).trans h0, (cell_same (p := ⟨cb, k * 4 + 1, none⟩) e).trans h1, (cell_same (p := ⟨cb, k * 4 + 2, none⟩) e).trans h2, (cell_same (p := ⟨cb, k * 4 + 3, none⟩) e).trans h3⟩
theorem OkAt.same {kb : Nat} (h : OkAt kb W) (e : W'.heap[kb]? = W.heap[kb]?) : OkAt kb W' := fun k hk => (cell_same (p := ⟨kb, k, none⟩) e).trans (h k hk)
/-- All of it lies in blocks that stay. -/
theorem Wk.below (h : Wk E o cap s W) (hb : Below W.heap.size W W') : Wk E o cap s W' :=
  ⟨h.bx.below hb h.bx.lt, h.out.same (hb.block _ h.out.lt), h.code.same (hb.block _ h.lcb), h.ok.same (hb.block _ h.lkb), h.cnt.same (hb.block _ (by obtain ⟨_, hB, _⟩ := h.cnt.h; exact hB.lt)), h.ap, Nat.lt_of_lt_of_le h.lcb hb.size, Nat.lt_of_lt_of_le h.lkb hb.size⟩
theorem Wk.drew (h : Wk E o cap s W) : Wk E o cap s W.drew := h.below (Below.refl _ W).drew
theorem Wk.drewN (h : Wk E o cap s W) (n : Nat) : Wk E o cap s (W.drewN n) := ⟨h.bx, h.out, h.code, h.ok, ⟨h.cnt.h⟩, h.ap, h.lcb, h.lkb⟩
theorem Wk.alloc (h : Wk E o cap s W) (x : Obj) : Wk E o cap s (W.alloc x) := h.below ((Below.refl _ W).alloc (Nat.le_refl _) x)
theorem Wk.cell (h : Wk E o cap s W) (i : Nat) : W.cell? ⟨E.g, i, none⟩ = (wcells E s (.slice (some ⟨o, 0, none⟩) s.out.length cap))[i]? := h.bx.cell i
theorem wc_reg (v : Value) (a : Nat) (ha : a < 16) : (wcells E s v)[1 + a]? = some (.int .u32 (s.reg a).toNat) := by
  match a, ha with
  | 0, _ => rfl
  | 1, _ => rfl
  | 2, _ => rfl
  | 3, _ => rfl
  | 4, _ => rfl
  | 5, _ => rfl
  | 6, _ => rfl
  | 7, _ => rfl
  | 8, _ => rfl
  | 9, _ => rfl
  | 10, _ => rfl
  | 11, _ => rfl
  | 12, _ => rfl
  | 13, _ => rfl
  | 14, _ => rfl
  | 15, _ => rfl
  | n + 16, h => exact absurd h (by omega)
theorem wc_set (v : Value) (a : Nat) (ha : a < 16) (x : UInt32) : (wcells E s v).setIfInBounds (1 + a) (.int .u32 x.toNat) = wcells E ⟨s.pc, updR s.reg a x, s.rd, s.out, s.st, s.fin⟩ v := by
  match a, ha with
  | 0, _ => rfl
  | 1, _ => rfl
  | 2, _ => rfl
  | 3, _ => rfl
  | 4, _ => rfl
  | 5, _ => rfl
  | 6, _ => rfl
  | 7, _ => rfl
  | 8, _ => rfl
  | 9, _ => rfl
  | 10, _ => rfl
  | 11, _ => rfl
  | 12, _ => rfl
  | 13, _ => rfl
  | 14, _ => rfl
  | 15, _ => rfl
  | n + 16, h => exact absurd h (by omega)
theorem Wk.reg (h : Wk E o cap s W) (a : Nat) (ha : a < 16) : W.cell? ⟨E.g, 1 + a, none⟩ = some (.int .u32 (s.reg a).toNat) := (h.cell (1 + a)).trans (wc_reg _ a ha)
/-- A store into the box. -/
theorem Wk.put (h : Wk E o cap s W) (i : Nat) (u : Value) {s' : Ms} (ho : s'.out = s.out) (hst : s.st ≤ s'.st) (he : (wcells E s (.slice (some ⟨o, 0, none⟩) s.out.length cap)).setIfInBounds i u = wcells E s' (.slice (some ⟨o, 0, none⟩) s.out.length cap)) :
    Wk E o cap s' (W.setCell ⟨E.g, i, none⟩ u) := by
  have hk := fun k (hk : k ≠ E.g) => Below.heap_setCell W ⟨E.g, i, none⟩ u k hk
  have hsz : (W.setCell ⟨E.g, i, none⟩ u).heap.size = W.heap.size := by simp [World.setCell]
  refine ⟨?_, ?_, h.code.same (hk _ h.ap.gcb.symm), h.ok.same (hk _ h.ap.gkb.symm), (h.cnt.same (hk _ h.ap.gc.symm)).more hst, h.ap, by rw [hsz]; exact h.lcb, by rw [hsz]; exact h.lkb⟩
  · rw [ho, ← he]; exact h.bx.set i u
  · rw [ho]; exact h.out.same (hk _ h.ap.og)
theorem Wk.setR (h : Wk E o cap s W) (a : Nat) (ha : a < 16) (x : UInt32) : Wk E o cap ⟨s.pc, updR s.reg a x, s.rd, s.out, s.st, s.fin⟩ (W.setCell ⟨E.g, 1 + a, none⟩ (.int .u32 x.toNat)) :=
  h.put (1 + a) _ rfl (Nat.le_refl _) (wc_set _ a ha x)
theorem Wk.setPC (h : Wk E o cap s W) (p : Nat) : Wk E o cap ⟨p, s.reg, s.rd, s.out, s.st, s.fin⟩ (W.setCell ⟨E.g, 0, none⟩ (.int .i64 p)) := h.put 0 _ rfl (Nat.le_refl _) rfl
theorem Wk.setRd (h : Wk E o cap s W) (p : Nat) : Wk E o cap ⟨s.pc, s.reg, p, s.out, s.st, s.fin⟩ (W.setCell ⟨E.g, 18, none⟩ (.int .i64 p)) := h.put 18 _ rfl (Nat.le_refl _) rfl
theorem Wk.setSt (h : Wk E o cap s W) (p : Nat) (hp : s.st ≤ p) : Wk E o cap ⟨s.pc, s.reg, s.rd, s.out, p, s.fin⟩ (W.setCell ⟨E.g, 20, none⟩ (.int .i64 p)) := h.put 20 _ rfl hp rfl
theorem Wk.setFin (h : Wk E o cap s W) (p : Nat) : Wk E o cap ⟨s.pc, s.reg, s.rd, s.out, s.st, p⟩ (W.setCell ⟨E.g, 21, none⟩ (.int .i64 p)) := h.put 21 _ rfl (Nat.le_refl _) rfl
theorem Wk.all (h : Wk E o cap s W) :
    (W.cell? ⟨E.g, 0, none⟩ = some (.int .i64 s.pc) ∧ W.cell? ⟨E.g, 18, none⟩ = some (.int .i64 s.rd) ∧ W.cell? ⟨E.g, 20, none⟩ = some (.int .i64 s.st) ∧ W.cell? ⟨E.g, 21, none⟩ = some (.int .i64 s.fin) ∧ W.cell? ⟨E.g, 22, none⟩ = some (.slice (some ⟨o, 0, none⟩) s.out.length cap) ∧ W.cell? ⟨E.g, 23, none⟩ = some (.slice (some ⟨E.cb, 0, none⟩) 34 34) ∧ W.cell? ⟨E.g, 24, none⟩ = some (.slice (some ⟨E.kb, 0, none⟩) 34 34) ∧ W.cell? ⟨E.g, 26, none⟩ = some (.string E.inp) ∧ W.cell? ⟨E.g, 27, none⟩ = some (.slice (some ⟨E.c, 0, none⟩) 34 34)) ∧
    (W.frozen? ⟨E.g, 0, none⟩ = false ∧ W.frozen? ⟨E.g, 18, none⟩ = false ∧ W.frozen? ⟨E.g, 20, none⟩ = false ∧ W.frozen? ⟨E.g, 21, none⟩ = false ∧ W.frozen? ⟨E.g, 22, none⟩ = false) :=
  ⟨⟨h.cell 0, h.cell 18, h.cell 20, h.cell 21, h.cell 22, h.cell 23, h.cell 24, h.cell 26, h.cell 27⟩, h.bx.frozen 0, h.bx.frozen 18, h.bx.frozen 20, h.bx.frozen 21, h.bx.frozen 22⟩
theorem Wk.putCnt (h : Wk E o cap s W) {k m : Nat} (_hk : k < 34) (hm : m ≤ s.st) : Wk E o cap s (W.setCell ⟨E.c, k, none⟩ (.int .i64 m)) := by
  have hk' := fun j (hj : j ≠ E.c) => Below.heap_setCell W ⟨E.c, k, none⟩ (.int .i64 m) j hj
  have hsz : (W.setCell ⟨E.c, k, none⟩ (.int .i64 m)).heap.size = W.heap.size := by simp [World.setCell]
  exact ⟨(hk' _ h.ap.gc).trans h.bx, h.out.same (hk' _ h.ap.oc), h.code.same (hk' _ h.ap.ccb.symm), h.ok.same (hk' _ h.ap.ckb.symm), h.cnt.put hm, h.ap, by rw [hsz]; exact h.lcb, by rw [hsz]; exact h.lkb⟩
theorem Wk.count (h : Wk E o cap s W) {k : Nat} (hk : k < 34) : ∃ m : Nat, W.cell? ⟨E.c, k, none⟩ = some (.int .i64 m) ∧ W.frozen? ⟨E.c, k, none⟩ = false ∧ m ≤ s.st := by
  obtain ⟨m, h1, h2, h3⟩ := h.cnt.get hk
  exact ⟨m, h1, h2, h3⟩
end
end Go.Proofs.YthfdjfgmgoafnaaDoor
