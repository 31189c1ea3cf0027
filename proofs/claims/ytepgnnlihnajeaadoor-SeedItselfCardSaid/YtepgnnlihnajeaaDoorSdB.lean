/- Layer 50: the document's machine: its state in memory; set, jump, walked. -/
import Derived.Test.YtepgnnlihnajeaaDoorSdM
import Derived.Test.YtepgnnlihnajeaaDoorSdG
import Derived.Test.YtepgnnlihnajeaaDoorInfo
namespace Go.Proofs.YtepgnnlihnajeaaDoor
open Go.RowKit

/-- What a run is made of: the boxes' numbers, the slices, the input. -/
structure Env where
  B : Nat
  g : Nat
  c : Nat
  cb : Nat
  kb : Nat
  mem : Value
  words : Value
  inp : ByteArray
def wcells (E : Env) (s : Ms) (v : Value) : Array Value :=
  #[.int .i64 s.pc, .int .u32 (s.reg 0).toNat, .int .u32 (s.reg 1).toNat, .int .u32 (s.reg 2).toNat, .int .u32 (s.reg 3).toNat, .int .u32 (s.reg 4).toNat, .int .u32 (s.reg 5).toNat, .int .u32 (s.reg 6).toNat, .int .u32 (s.reg 7).toNat, .int .u32 (s.reg 8).toNat, .int .u32 (s.reg 9).toNat, .int .u32 (s.reg 10).toNat, .int .u32 (s.reg 11).toNat, .int .u32 (s.reg 12).toNat, .int .u32 (s.reg 13).toNat, .int .u32 (s.reg 14).toNat, .int .u32 (s.reg 15).toNat, E.mem, .int .i64 s.rd, .string ⟨#[]⟩, .int .i64 s.st, .int .i64 s.fin, v, .slice (some ⟨E.cb, 0, none⟩) 34 34, .slice (some ⟨E.kb, 0, none⟩) 34 34, E.words, .string E.inp, .slice (some ⟨E.c, 0, none⟩) 34 34]
theorem cell_same {w w' : World} {p : Addr} (h : w'.heap[p.block]? = w.heap[p.block]?) : w'.cell? p = w.cell? p := by
  unfold World.cell?; rw [h]
/-- The cells of the code, as instructions. -/
def CodeAt (cb : Nat) (W : World) : Prop := ∀ (k op a b c : Nat), seedP[k]? = some (op, a, b, c) → W.cell? ⟨cb, k * 4, none⟩ = some (.int .i64 op) ∧ W.cell? ⟨cb, k * 4 + 1, none⟩ = some (.int .i64 a) ∧ W.cell? ⟨cb, k * 4 + 2, none⟩ = some (.int .i64 b) ∧ W.cell? ⟨cb, k * 4 + 3, none⟩ = some (.int .i64 c)
def OkAt (kb : Nat) (W : World) : Prop := ∀ k, k < 34 → W.cell? ⟨kb, k, none⟩ = some (.bool true)
structure Cnt (c : Nat) (n : Nat) (W : World) : Prop where
  h : ∃ arr, Blk W c 3 arr ∧ ∀ k, k < 34 → ∃ m : Nat, arr[k]? = some (.int .i64 m) ∧ m ≤ n
theorem Cnt.same {c n : Nat} {W W' : World} (h : Cnt c n W) (e : W'.heap[c]? = W.heap[c]?) : Cnt c n W' := by
  obtain ⟨arr, hB, r⟩ := h.h
  exact ⟨arr, e.trans hB, r⟩
theorem Cnt.more {c n m : Nat} {W : World} (h : Cnt c n W) (hn : n ≤ m) : Cnt c m W := by
  obtain ⟨arr, hB, r⟩ := h.h
  exact ⟨arr, hB, fun k hk => by obtain ⟨x, h1, h2⟩ := r k hk; exact ⟨x, h1, by omega⟩⟩
theorem Cnt.get {c n : Nat} {W : World} (h : Cnt c n W) {k : Nat} (hk : k < 34) : ∃ m : Nat, W.cell? ⟨c, k, none⟩ = some (.int .i64 m) ∧ W.frozen? ⟨c, k, none⟩ = false ∧ m ≤ n := by
  obtain ⟨arr, hB, r⟩ := h.h
  obtain ⟨m, h1, h2⟩ := r k hk
  exact ⟨m, (hB.cell k).trans h1, hB.frozen k, h2⟩
theorem Cnt.put {c n k m : Nat} {W : World} (h : Cnt c n W) (hm : m ≤ n) : Cnt c n (W.setCell ⟨c, k, none⟩ (.int .i64 m)) := by
  obtain ⟨arr, hB, r⟩ := h.h
  refine ⟨_, hB.set k _, fun j hj => ?_⟩
  obtain ⟨m', h1, h2⟩ := r j hj
  by_cases e : k = j
  · subst e
    exact ⟨m, by rw [Array.getElem?_setIfInBounds_self_of_lt (Array.getElem?_eq_some_iff.1 h1).1], hm⟩
  · exact ⟨m', by rw [Array.getElem?_setIfInBounds_ne e]; exact h1, h2⟩
structure Apart (E : Env) (o : Nat) : Prop where
  gc : E.g ≠ E.c
  gcb : E.g ≠ E.cb
  gkb : E.g ≠ E.kb
  ccb : E.c ≠ E.cb
  ckb : E.c ≠ E.kb
  og : o ≠ E.g
  oc : o ≠ E.c
  ocb : o ≠ E.cb
  okb : o ≠ E.kb
  bg : E.B ≤ E.g
  bc : E.B ≤ E.c
  bo : E.B ≤ o
/-- A run's state in memory. -/
structure Wk (E : Env) (o cap : Nat) (s : Ms) (W : World) : Prop where
  bx : Blk W E.g 87 (wcells E s (.slice (some ⟨o, 0, none⟩) s.out.length cap))
  out : Ro W 5 o cap (s.out.map bv)
  code : CodeAt E.cb W
  ok : OkAt E.kb W
  cnt : Cnt E.c s.st W
  ap : Apart E o
  lcb : E.cb < W.heap.size
  lkb : E.kb < W.heap.size
section
variable {E : Env} {o cap : Nat} {s : Ms} {W W' : World}
theorem CodeAt.same {cb : Nat} (h : CodeAt cb W) (e : W'.heap[cb]? = W.heap[cb]?) : CodeAt cb W' := fun k op a b c hk => by
  obtain ⟨h0, h1, h2, h3⟩ := h k op a b c hk
  exact ⟨(cell_same (p := ⟨cb, k * 4, none⟩) e).trans h0, (cell_same (p := ⟨cb, k * 4 + 1, none⟩) e).trans h1, (cell_same (p := ⟨cb, k * 4 + 2, none⟩) e).trans h2, (cell_same (p := ⟨cb, k * 4 + 3, none⟩) e).trans h3⟩
theorem OkAt.same {kb : Nat} (h : OkAt kb W) (e : W'.heap[kb]? = W.heap[kb]?) : OkAt kb W' := fun k hk => (cell_same (p := ⟨kb, k, none⟩) e).trans (h k hk)
/-- All of it lies in blocks that stay. -/
theorem Wk.below (h : Wk E o cap s W) (hb : Below W.heap.size W W') : Wk E o cap s W' :=
  ⟨h.bx.below hb h.bx.lt, h.out.same (hb.block _ h.out.lt), h.code.same (hb.block _ h.lcb), h.ok.same (hb.block _ h.lkb), h.cnt.same (hb.block _ (by obtain ⟨_, hB, _⟩ := h.cnt.h; exact hB.lt)), h.ap, Nat.lt_of_lt_of_le h.lcb hb.size, Nat.lt_of_lt_of_le h.lkb hb.size⟩
theorem Wk.drew (h : Wk E o cap s W) : Wk E o cap s W.drew := h.below (Below.refl _ W).drew
theorem Wk.drewN (h : Wk E o cap s W) (n : Nat) : Wk E o cap s (W.drewN n) := ⟨h.bx, h.out, h.code, h.ok, ⟨h.cnt.h⟩, h.ap, h.lcb, h.lkb⟩
theorem Wk.alloc (h : Wk E o cap s W) (x : Obj) : Wk E o cap s (W.alloc x) := h.below ((Below.refl _ W).alloc (Nat.le_refl _) x)
theorem Wk.cell (h : Wk E o cap s W) (i : Nat) : W.cell? ⟨E.g, i, none⟩ = (wcells E s (.slice (some ⟨o, 0, none⟩) s.out.length cap))[i]? := h.bx.cell i
theorem wc_reg (v : Value) (a : Nat) (ha : a < 16) : (wcells E s v)[1 + a]? = some (.int .u32 (s.reg a).toNat) := by
  match a, ha with
  | 0, _ => rfl
  | 1, _ => rfl
  | 2, _ => rfl
  | 3, _ => rfl
  | 4, _ => rfl
  | 5, _ => rfl
  | 6, _ => rfl
  | 7, _ => rfl
  | 8, _ => rfl
  | 9, _ => rfl
  | 10, _ => rfl
  | 11, _ => rfl
  | 12, _ => rfl
  | 13, _ => rfl
  | 14, _ => rfl
  | 15, _ => rfl
  | n + 16, h => exact absurd h (by omega)
theorem wc_set (v : Value) (a : Nat) (ha : a < 16) (x : UInt32) : (wcells E s v).setIfInBounds (1 + a) (.int .u32 x.toNat) = wcells E ⟨s.pc, updR s.reg a x, s.rd, s.out, s.st, s.fin⟩ v := by
  match a, ha with
  | 0, _ => rfl
  | 1, _ => rfl
  | 2, _ => rfl
  | 3, _ => rfl
  | 4, _ => rfl
  | 5, _ => rfl
  | 6, _ => rfl
  | 7, _ => rfl
  | 8, _ => rfl
  | 9, _ => rfl
  | 10, _ => rfl
  | 11, _ => rfl
  | 12, _ => rfl
  | 13, _ => rfl
  | 14, _ => rfl
  | 15, _ => rfl
  | n + 16, h => exact absurd h (by omega)
theorem Wk.reg (h : Wk E o cap s W) (a : Nat) (ha : a < 16) : W.cell? ⟨E.g, 1 + a, none⟩ = some (.int .u32 (s.reg a).toNat) := (h.cell (1 + a)).trans (wc_reg _ a ha)
/-- A store into the box. -/
theorem Wk.put (h : Wk E o cap s W) (i : Nat) (u : Value) {s' : Ms} (ho : s'.out = s.out) (hst : s.st ≤ s'.st) (he : (wcells E s (.slice (some ⟨o, 0, none⟩) s.out.length cap)).setIfInBounds i u = wcells E s' (.slice (some ⟨o, 0, none⟩) s.out.length cap)) :
    Wk E o cap s' (W.setCell ⟨E.g, i, none⟩ u) := by
  have hk := fun k (hk : k ≠ E.g) => Below.heap_setCell W ⟨E.g, i, none⟩ u k hk
  have hsz : (W.setCell ⟨E.g, i, none⟩ u).heap.size = W.heap.size := by simp [World.setCell]
  refine ⟨?_, ?_, h.code.same (hk _ h.ap.gcb.symm), h.ok.same (hk _ h.ap.gkb.symm), (h.cnt.same (hk _ h.ap.gc.symm)).more hst, h.ap, by rw [hsz]; exact h.lcb, by rw [hsz]; exact h.lkb⟩
  · rw [ho, ← he]; exact h.bx.set i u
  · rw [ho]; exact h.out.same (hk _ h.ap.og)
theorem Wk.setR (h : Wk E o cap s W) (a : Nat) (ha : a < 16) (x : UInt32) : Wk E o cap ⟨s.pc, updR s.reg a x, s.rd, s.out, s.st, s.fin⟩ (W.setCell ⟨E.g, 1 + a, none⟩ (.int .u32 x.toNat)) :=
  h.put (1 + a) _ rfl (Nat.le_refl _) (wc_set _ a ha x)
theorem Wk.setPC (h : Wk E o cap s W) (p : Nat) : Wk E o cap ⟨p, s.reg, s.rd, s.out, s.st, s.fin⟩ (W.setCell ⟨E.g, 0, none⟩ (.int .i64 p)) := h.put 0 _ rfl (Nat.le_refl _) rfl
theorem Wk.setRd (h : Wk E o cap s W) (p : Nat) : Wk E o cap ⟨s.pc, s.reg, p, s.out, s.st, s.fin⟩ (W.setCell ⟨E.g, 18, none⟩ (.int .i64 p)) := h.put 18 _ rfl (Nat.le_refl _) rfl
theorem Wk.setSt (h : Wk E o cap s W) (p : Nat) (hp : s.st ≤ p) : Wk E o cap ⟨s.pc, s.reg, s.rd, s.out, p, s.fin⟩ (W.setCell ⟨E.g, 20, none⟩ (.int .i64 p)) := h.put 20 _ rfl hp rfl
theorem Wk.setFin (h : Wk E o cap s W) (p : Nat) : Wk E o cap ⟨s.pc, s.reg, s.rd, s.out, s.st, p⟩ (W.setCell ⟨E.g, 21, none⟩ (.int .i64 p)) := h.put 21 _ rfl (Nat.le_refl _) rfl
theorem Wk.all (h : Wk E o cap s W) :
    (W.cell? ⟨E.g, 0, none⟩ = some (.int .i64 s.pc) ∧ W.cell? ⟨E.g, 18, none⟩ = some (.int .i64 s.rd) ∧ W.cell? ⟨E.g, 20, none⟩ = some (.int .i64 s.st) ∧ W.cell? ⟨E.g, 21, none⟩ = some (.int .i64 s.fin) ∧ W.cell? ⟨E.g, 22, none⟩ = some (.slice (some ⟨o, 0, none⟩) s.out.length cap) ∧ W.cell? ⟨E.g, 23, none⟩ = some (.slice (some ⟨E.cb, 0, none⟩) 34 34) ∧ W.cell? ⟨E.g, 24, none⟩ = some (.slice (some ⟨E.kb, 0, none⟩) 34 34) ∧ W.cell? ⟨E.g, 26, none⟩ = some (.string E.inp) ∧ W.cell? ⟨E.g, 27, none⟩ = some (.slice (some ⟨E.c, 0, none⟩) 34 34)) ∧
    (W.frozen? ⟨E.g, 0, none⟩ = false ∧ W.frozen? ⟨E.g, 18, none⟩ = false ∧ W.frozen? ⟨E.g, 20, none⟩ = false ∧ W.frozen? ⟨E.g, 21, none⟩ = false ∧ W.frozen? ⟨E.g, 22, none⟩ = false) :=
  ⟨⟨h.cell 0, h.cell 18, h.cell 20, h.cell 21, h.cell 22, h.cell 23, h.cell 24, h.cell 26, h.cell 27⟩, h.bx.frozen 0, h.bx.frozen 18, h.bx.frozen 20, h.bx.frozen 21, h.bx.frozen 22⟩
theorem Wk.putCnt (h : Wk E o cap s W) {k m : Nat} (_hk : k < 34) (hm : m ≤ s.st) : Wk E o cap s (W.setCell ⟨E.c, k, none⟩ (.int .i64 m)) := by
  have hk' := fun j (hj : j ≠ E.c) => Below.heap_setCell W ⟨E.c, k, none⟩ (.int .i64 m) j hj
  have hsz : (W.setCell ⟨E.c, k, none⟩ (.int .i64 m)).heap.size = W.heap.size := by simp [World.setCell]
  exact ⟨(hk' _ h.ap.gc).trans h.bx, h.out.same (hk' _ h.ap.oc), h.code.same (hk' _ h.ap.ccb.symm), h.ok.same (hk' _ h.ap.ckb.symm), h.cnt.put hm, h.ap, by rw [hsz]; exact h.lcb, by rw [hsz]; exact h.lkb⟩
theorem Wk.count (h : Wk E o cap s W) {k : Nat} (hk : k < 34) : ∃ m : Nat, W.cell? ⟨E.c, k, none⟩ = some (.int .i64 m) ∧ W.frozen? ⟨E.c, k, none⟩ = false ∧ m ≤ s.st := by
  obtain ⟨m, h1, h2, h3⟩ := h.cnt.get hk
  exact ⟨m, h1, h2, h3⟩
end
end Go.Proofs.YtepgnnlihnajeaaDoor
