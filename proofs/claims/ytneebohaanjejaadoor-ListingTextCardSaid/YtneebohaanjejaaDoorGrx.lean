/- Appending to a row of bytes that a conversion of a string made: whatever is no part of that row stays. No program in sight. -/
import Derived.Test.YtneebohaanjejaaDoorGr
namespace Go.Proofs.YtneebohaanjejaaDoor
open Go.RowKit

/-- As Gr, the row's block named. -/
def Gx (w : World) (B : Nat) (e : TypeId) (g : Nat) (v : Value) (n : Nat) (xs : List Value) : Prop :=
  xs.length = n ∧ ∃ cap cur fz, v = .slice (some ⟨g, 0, none⟩) n cap ∧ B ≤ g ∧ w.heap[g]? = some (.cells cur e fz) ∧ n ≤ cap ∧ cur.size = cap ∧ cur.toList.take n = xs ∧ (fz = (0, 0) ∨ cap ≤ fz.1)
theorem Gx.of {w : World} {B : Nat} {e : TypeId} {g : Nat} {v : Value} {n : Nat} {xs : List Value} (h : Gx w B e g v n xs) : Gr w B e v n xs := ⟨h.1, g, h.2⟩
theorem Gx.bytes (w : World) (B : Nat) (e : TypeId) (s : ByteArray) (hB : B ≤ w.heap.size) : Gx (Lib.bytesWorld w e s) B e w.heap.size (.slice (some ⟨w.heap.size, 0, none⟩) s.size (grownCap w s.size 0 e)) s.size (s.data.toList.map bv) := by
  obtain ⟨h1, g, cap, cur, fz, hv, r⟩ := Gr.bytes w B e s hB
  injection hv with hv hn hc
  injection hv with hv
  injection hv with hv
  subst hv hc
  exact ⟨h1, _, cur, fz, rfl, r⟩
theorem Gx.lt {w : World} {B : Nat} {e : TypeId} {g : Nat} {v : Value} {n : Nat} {xs : List Value} (h : Gx w B e g v n xs) : g < w.heap.size := by
  obtain ⟨_, cap, cur, fz, _, _, hg, _⟩ := h
  exact (Array.getElem?_eq_some_iff.1 hg).1
theorem Gx.base {w : World} {B : Nat} {e : TypeId} {g : Nat} {v : Value} {n : Nat} {xs : List Value} (h : Gx w B e g v n xs) : B ≤ g := by
  obtain ⟨_, cap, cur, fz, _, hB, _⟩ := h
  exact hB
theorem Gx.form {w : World} {B : Nat} {e : TypeId} {g : Nat} {v : Value} {n : Nat} {xs : List Value} (h : Gx w B e g v n xs) : ∃ cap, v = .slice (some ⟨g, 0, none⟩) n cap := by
  obtain ⟨_, cap, cur, fz, hv, _⟩ := h
  exact ⟨cap, hv⟩
theorem Gx.below {w w' : World} {B : Nat} {e : TypeId} {g : Nat} {v : Value} {n : Nat} {xs : List Value} (h : Gx w B e g v n xs) {B' : Nat} (hB' : B' = w.heap.size) (hb : Below B' w w') : Gx w' B e g v n xs := by
  subst hB'
  obtain ⟨hl, cap, cur, fz, rfl, hB, hg, hr⟩ := h
  exact ⟨hl, cap, cur, fz, rfl, hB, by rw [hb.block g (Array.getElem?_eq_some_iff.1 hg).1]; exact hg, hr⟩
theorem Gx.drew {w : World} {B : Nat} {e : TypeId} {g : Nat} {v : Value} {n : Nat} {xs : List Value} (h : Gx w B e g v n xs) : Gx w.drew B e g v n xs := h
theorem setCells_other {g k : Nat} (hk : k ≠ g) : ∀ (vs : List Value) (o : Nat) (w : World), (w.setCells g o vs).heap[k]? = w.heap[k]?
  | [], _, _w => rfl
  | v :: r, o, w => (setCells_other hk r (o + 1) _).trans (Below.heap_setCell w ⟨g, o, none⟩ v k hk)
theorem run_append_gx {P : Program} {w : World} {B : Nat} {e : TypeId} {g : Nat} {v : Value} {n : Nat} {xs : List Value} (t ty : TypeId) (i : TypeInfo) (z : Value) (bytes : Nat) (ht : P.underlying t = some (.slice e)) (hi : P.info? e = some i) (hz : i.zero = some z)
    (hsize : i.size = 1) (hby : i.bytes = bytes) (hzs : z.cells.size = 1) (h : Gx w B e g v n xs) (a : Addr) (m c : Nat) (ys : List Value) (hl : ys.length = m) (hys : ∀ j u, ys[j]? = some u → w.cell? (a.add j) = some u) (h1 : ∀ u ∈ ys, u.oneCell' = true)
    (hm : 0 < m) (h63 : n + m ≤ maxLen) (hbytes : (n + m) * bytes ≤ 140737488355328) (hBw : B ≤ w.heap.size) :
    ∃ v' w' g', (Builtin.append_ #[t, t] ty #[v, .slice (some a) m c]).run P w = .ok v' w' ∧ Gx w' B e g' v' (n + m) (xs ++ ys) ∧ Below B w w' ∧ (g' = g ∨ w.heap.size ≤ g') ∧ (∀ k, k < w.heap.size → k ≠ g → w'.heap[k]? = w.heap[k]?) := by
  obtain ⟨hxl, cap, cur, fz, rfl, hB, hg, hn, hc, htk, hf⟩ := h
  have hgl : g < w.heap.size := (Array.getElem?_eq_some_iff.1 hg).1
  by_cases hroom : n + m ≤ cap
  · have hcell : ∀ j, j < ys.length → (w.cell? ⟨g, 0 + n * i.size + j, none⟩).isSome = true := by
      intro j hj
      simp only [World.cell?, hg]
      rw [hsize, Array.getElem?_eq_getElem (by rw [hc]; omega)]
      rfl
    have hfro : ∀ j, j < ys.length → w.frozen? ⟨g, 0 + n * i.size + j, none⟩ = false := by
      intro j hj
      simp only [World.frozen?, hg]
      rcases hf with rfl | hf
      · simp
      · rw [hsize]; simp; omega
    have hr := run_append_room_cells (P := P) (w := w) t ty e i ht hi g 0 n cap a m c ys (by rw [hl, hsize, Nat.mul_one]) hys h1 hroom hcell hfro
    obtain ⟨cur', k1, k2, k3⟩ := setCells_row g e fz ys (0 + n * i.size) w cur hg (by rw [hsize, hc]; omega)
    refine ⟨_, _, g, hr, ⟨by rw [List.length_append, hxl, hl], cap, cur', fz, rfl, hB, k1, hroom, by rw [k2, hc], ?_, hf⟩, ?_, .inl rfl, fun k _ hk => setCells_other hk _ _ _⟩
    · rw [hsize, hl] at k3
      rw [show 0 + n * 1 = n by omega] at k3
      rw [k3, htk]
    · exact setCells_below hB _ _ _
  · have hcells := row_cell hg htk hxl
    obtain ⟨v', w', hr, ho, hgr⟩ := run_append_arg_grows (P := P) (w := w) t ty e i z 1 bytes ht hi hz hsize hby hzs (by decide) ⟨g, 0, none⟩ n cap xs (by rw [hxl]; omega) hcells a m c ys (by rw [hl]; omega) hys (by omega) h63 hbytes
    obtain ⟨ho1, ho2⟩ := ho
    rcases ho2 with ⟨_, h0⟩ | ⟨g2, cap2, cur2, rfl, q1, q2, q3, q4, q5, q6⟩
    · omega
    · exact ⟨_, w', g2, hr, ⟨by omega, cap2, cur2, (0, 0), rfl, Nat.le_trans hBw q1, q2, q3, by omega, by rw [← q6]; congr 1; omega, .inl rfl⟩, (Below.refl B w).grown hgr hBw (fun k hk => by cases hk), .inr q1, fun k hk _ => hgr.block k hk (fun e => by cases e)⟩
theorem step_append_gx {P : Program} {ops : Array Oper} {o : Oper} {a : Act} {K : Act → World → Prop} {Q : Exit → Act → World → Prop} {X : Prop} {w : World}
    (hgd : o.guard = none) (s x : Operand) (t : TypeId) (ho : o.op = .call { callee := .builtin .append, args := #[s, x], argTypes := #[t, t] })
    (B : Nat) (E : TypeId) (z : Value) (bytes : Nat) (ht : P.underlying t = some (.slice E)) (hinfo : (P.info? E).map (fun i => (i.zero, i.size, i.bytes)) = some (some z, 1, bytes))
    (hzs : z.cells.size = 1) (g : Nat) (v : Value) (n : Nat) (xs : List Value) (hs : a.eval s = v) (hown : Gx w B E g v n xs)
    (A : Addr) (m c : Nat) (ys : List Value) (hx : a.eval x = .slice (some A) m c) (hl : ys.length = m) (hys : ∀ j u, ys[j]? = some u → w.cell? (A.add j) = some u) (h1 : ∀ u ∈ ys, u.oneCell' = true)
    (hm : 0 < m) (hbytes : (n + m) * bytes ≤ 140737488355328) (h63 : n + m ≤ 140737488355328) (hB : B ≤ w.heap.size)
    (h : ∀ v' w' g', Gx w' B E g' v' (n + m) (xs ++ ys) → Below B w w' → (g' = g ∨ w.heap.size ≤ g') → (∀ k, k < w.heap.size → k ≠ g → w'.heap[k]? = w.heap[k]?) → K (a.put o.dst v') w') :
    if Region.wanted o (yielded ops a.tmps) = true then Oper.wp P o a w K Q else X := by
  obtain ⟨i0, hi, hz0, hz1, hz2⟩ := info_parts hinfo
  rw [if_pos (by simp [Region.wanted, hgd])]
  obtain ⟨v', w', g', hr, hG, hb, hg', hk⟩ := run_append_gx (P := P) t o.type i0 z bytes ht hi hz0 hz1 hz2 hzs hown A m c ys hl hys h1 hm (by unfold maxLen; omega) hbytes hB
  unfold Oper.wp execOp
  simp only [ho, resolve, invoke, builtin, Sem.run_bind, Sem.run_pure, Result.andThen_ok, List.map_toArray, List.map_cons, List.map_nil, hs, hx, hr]
  exact h v' w' g' hG hb hg' hk
theorem wpList_append_gx {P : Program} {ops : Array Oper} {rest : List Oper} {o : Oper} {a : Act} {Q : Exit → Act → World → Prop} {w : World}
    (hgd : o.guard = none) (s x : Operand) (t : TypeId) (ho : o.op = .call { callee := .builtin .append, args := #[s, x], argTypes := #[t, t] })
    (B : Nat) (E : TypeId) (z : Value) (bytes : Nat) (ht : P.underlying t = some (.slice E)) (hinfo : (P.info? E).map (fun i => (i.zero, i.size, i.bytes)) = some (some z, 1, bytes))
    (hzs : z.cells.size = 1) (g : Nat) (v : Value) (n : Nat) (xs : List Value) (hs : a.eval s = v) (hown : Gx w B E g v n xs)
    (A : Addr) (m c : Nat) (ys : List Value) (hx : a.eval x = .slice (some A) m c) (hl : ys.length = m) (hys : ∀ j u, ys[j]? = some u → w.cell? (A.add j) = some u) (h1 : ∀ u ∈ ys, u.oneCell' = true)
    (hm : 0 < m) (hbytes : (n + m) * bytes ≤ 140737488355328) (h63 : n + m ≤ 140737488355328) (hB : B ≤ w.heap.size)
    (h : ∀ v' w' g', Gx w' B E g' v' (n + m) (xs ++ ys) → Below B w w' → (g' = g ∨ w.heap.size ≤ g') → (∀ k, k < w.heap.size → k ≠ g → w'.heap[k]? = w.heap[k]?) → wpList P ops Q rest (a.put o.dst v') w') : wpList P ops Q (o :: rest) a w := by
  refine wpList_plain hgd fun K hK => ?_
  have hst := step_append_gx (ops := ops) (K := K) (Q := Q) (X := True) hgd s x t ho B E z bytes ht hinfo hzs g v n xs hs hown A m c ys hx hl hys h1 hm hbytes h63 hB (fun v' w' g' h1 h2 h3 h4 => hK _ _ (h v' w' g' h1 h2 h3 h4))
  rwa [if_pos (by simp [Region.wanted, hgd])] at hst
end Go.Proofs.YtneebohaanjejaaDoor
