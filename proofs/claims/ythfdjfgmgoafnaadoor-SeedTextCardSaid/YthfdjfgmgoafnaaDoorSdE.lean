/- Layer 50: the document's machine: a run, walked. -/
import Derived.Deep.MidRow
import Derived.Laws.Rows
import Derived.Laws.ResultCell
import Derived.Deep.CutBlock
import Derived.Test.YthfdjfgmgoafnaaDoorSdC
import Derived.Test.YthfdjfgmgoafnaaDoorSdD
namespace Go.Proofs.YthfdjfgmgoafnaaDoor
open Go.RowKit

def scells (mem : Value) (s : Ms) (t : ByteArray) : Array Value := #[.int .i64 s.pc, .int .u32 (s.reg 0).toNat, .int .u32 (s.reg 1).toNat, .int .u32 (s.reg 2).toNat, .int .u32 (s.reg 3).toNat, .int .u32 (s.reg 4).toNat, .int .u32 (s.reg 5).toNat, .int .u32 (s.reg 6).toNat, .int .u32 (s.reg 7).toNat, .int .u32 (s.reg 8).toNat, .int .u32 (s.reg 9).toNat, .int .u32 (s.reg 10).toNat, .int .u32 (s.reg 11).toNat, .int .u32 (s.reg 12).toNat, .int .u32 (s.reg 13).toNat, .int .u32 (s.reg 14).toNat, .int .u32 (s.reg 15).toNat, mem, .int .i64 s.rd, .string t, .int .i64 s.st, .int .i64 s.fin]
def reg16 (s : Ms) : List Value := [.int .u32 (s.reg 0).toNat, .int .u32 (s.reg 1).toNat, .int .u32 (s.reg 2).toNat, .int .u32 (s.reg 3).toNat, .int .u32 (s.reg 4).toNat, .int .u32 (s.reg 5).toNat, .int .u32 (s.reg 6).toNat, .int .u32 (s.reg 7).toNat, .int .u32 (s.reg 8).toNat, .int .u32 (s.reg 9).toNat, .int .u32 (s.reg 10).toNat, .int .u32 (s.reg 11).toNat, .int .u32 (s.reg 12).toNat, .int .u32 (s.reg 13).toNat, .int .u32 (s.reg 14).toNat, .int .u32 (s.reg 15).toNat]
/-- The boxes of a run ahead of its loop: the image, the state that it begins at, the result. -/
structure Rn (w : World) (A : Option Addr) (c : Nat) (s : Ms) (W : World) : Prop where
  m : Blk W w.heap.size 25 #[.slice A 34 c, .int .i64 0]
  s : Blk W (w.heap.size + 1) 106 (scells (.slice none 0 0) s ⟨#[]⟩)
  z : ∃ z, Blk W (w.heap.size + 1 + 1) 106 z ∧ z.size = 22
  bel : Below w.heap.size w W
section
variable {w W W' : World} {A : Option Addr} {c pc rd st fin : Nat} {r : Nat → UInt32} {s : Ms}
theorem Rn.top (h : Rn w A c s W) : w.heap.size + 1 + 1 < W.heap.size := by obtain ⟨z, hz, _⟩ := h.z; exact hz.lt
theorem Rn.below (h : Rn w A c s W) (hb : Below W.heap.size W W') : Rn w A c s W' := ⟨h.m.below hb h.m.lt, h.s.below hb h.s.lt, by obtain ⟨z, hz, h22⟩ := h.z; exact ⟨z, hz.below hb hz.lt, h22⟩, h.bel.trans (hb.mono h.bel.size)⟩
theorem Rn.alloc (h : Rn w A c s W) (x : Obj) : Rn w A c s (W.alloc x) := h.below ((Below.refl _ W).alloc (Nat.le_refl _) x)
theorem Rn.drew (h : Rn w A c s W) : Rn w A c s W.drew := h.below (Below.refl _ W).drew
theorem Rn.cells (h : Rn w A c ⟨pc, r, rd, [], st, fin⟩ W) : (W.cell? ⟨w.heap.size + 1, 0, none⟩ = some (.int .i64 pc) ∧ W.cell? ⟨w.heap.size + 1, 17, none⟩ = some (.slice none 0 0) ∧ W.cell? ⟨w.heap.size + 1, 18, none⟩ = some (.int .i64 rd) ∧ W.cell? ⟨w.heap.size + 1, 19, none⟩ = some (.string ⟨#[]⟩) ∧ W.cell? ⟨w.heap.size + 1, 20, none⟩ = some (.int .i64 st) ∧ W.cell? ⟨w.heap.size + 1, 21, none⟩ = some (.int .i64 fin)) ∧ W.cell? ⟨w.heap.size, 0, none⟩ = some (.slice A 34 c) ∧ W.rangeAt (w.heap.size + 1) 1 [.int .u32 (r 0).toNat, .int .u32 (r 1).toNat, .int .u32 (r 2).toNat, .int .u32 (r 3).toNat, .int .u32 (r 4).toNat, .int .u32 (r 5).toNat, .int .u32 (r 6).toNat, .int .u32 (r 7).toNat, .int .u32 (r 8).toNat, .int .u32 (r 9).toNat, .int .u32 (r 10).toNat, .int .u32 (r 11).toNat, .int .u32 (r 12).toNat, .int .u32 (r 13).toNat, .int .u32 (r 14).toNat, .int .u32 (r 15).toNat] ∧ Rn w A c ⟨pc, r, rd, [], st, fin⟩ W := by
  refine ⟨⟨h.s.cell 0, h.s.cell 17, h.s.cell 18, h.s.cell 19, h.s.cell 20, h.s.cell 21⟩, h.m.cell 0, ?_, h⟩
  intro j v hv
  rw [Nat.add_comm 1 j]
  refine (h.s.cell (j + 1)).trans ?_
  match j, hv with
  | 0, hv => exact hv
  | 1, hv => exact hv
  | 2, hv => exact hv
  | 3, hv => exact hv
  | 4, hv => exact hv
  | 5, hv => exact hv
  | 6, hv => exact hv
  | 7, hv => exact hv
  | 8, hv => exact hv
  | 9, hv => exact hv
  | 10, hv => exact hv
  | 11, hv => exact hv
  | 12, hv => exact hv
  | 13, hv => exact hv
  | 14, hv => exact hv
  | 15, hv => exact hv
  | n + 16, hv => cases hv
end
theorem Rn.new (w : World) (A : Option Addr) (c : Nat) (s : Ms) (z : Array Value) (h22 : z.size = 22) : Rn w A c s (((w.alloc (.cells #[.slice A 34 c, .int .i64 0] 25)).alloc (.cells (scells (.slice none 0 0) s ⟨#[]⟩) 106)).alloc (.cells z 106)) := by
  refine ⟨((Blk.new w _ _).alloc _).alloc _, ?_, ⟨z, ?_, h22⟩, (((Below.refl _ w).alloc (Nat.le_refl _) _).alloc (by simp) _).alloc (by simp; omega) _⟩
  · have h := (Blk.new (w.alloc (.cells #[.slice A 34 c, .int .i64 0] 25)) 106 (scells (.slice none 0 0) s ⟨#[]⟩)).alloc (.cells z 106)
    simpa using h
  · have h := Blk.new ((w.alloc (.cells #[.slice A 34 c, .int .i64 0] 25)).alloc (.cells (scells (.slice none 0 0) s ⟨#[]⟩) 106)) 106 z
    simpa using h
/-- Behind the state's copy. -/
def RelO (w : World) (A : Option Addr) (c G : Nat) (s : Ms) (p : Value) (W : World) : Prop :=
  ∃ (q m : Nat), p = .pointer (some ⟨q, 0, none⟩) ∧ Blk W q 106 (scells (.slice (some ⟨m, 0, none⟩) 0 0) s ⟨#[]⟩) ∧ Rn w A c s W ∧ CodeAt (G + 1) W ∧ OkAt (G + 1 + 1) W ∧ G + 3 ≤ W.heap.size
theorem there_blk {W : World} {q : Nat} {t : TypeId} {z : Array Value} (h : Blk W q t z) {n : Nat} (hn : n ≤ z.size) : W.there q 0 n := fun j hj => by
  refine ⟨?_, h.frozen _⟩
  rw [h.cell, Nat.zero_add, Array.getElem?_eq_getElem (by omega)]
  rfl
theorem setCells_blk {W : World} {q : Nat} {t : TypeId} {z cs : Array Value} (h : Blk W q t z) (hz : z.size = cs.size) : Blk (W.setCells q 0 cs.toList) q t cs := by
  obtain ⟨cur, k1, k2, k3⟩ := setCells_row q t (0, 0) cs.toList 0 W z h (by rw [Nat.zero_add, Array.length_toList]; omega)
  have e : cur = cs := by
    apply Array.toList_inj.1
    rw [List.take_of_length_le (by rw [Array.length_toList, Array.length_toList]; omega)] at k3
    simpa using k3
  rw [← e]
  exact e ▸ k1
theorem Rn.keep {w W W' : World} {A : Option Addr} {c B : Nat} {s : Ms} (h : Rn w A c s W) (hb : Below B W W') (hB : w.heap.size + 1 + 1 < B) : Rn w A c s W' :=
  ⟨h.m.below hb (by omega), h.s.below hb (by omega), by obtain ⟨z, hz, h22⟩ := h.z; exact ⟨z, hz.below hb hB, h22⟩, h.bel.trans (hb.mono (by omega))⟩
theorem relO_end {w w1 W : World} {A : Option Addr} {c G q : Nat} {s : Ms} {z : Array Value} {m : Nat} (h1 : Rn w A c s w1) (hC : CodeAt (G + 1) w1) (hK : OkAt (G + 1 + 1) w1) (hsz : G + 3 ≤ w1.heap.size) (_htop : w.heap.size + 1 + 1 < G)
    (hb : Below w1.heap.size w1 W) (hB : Blk W q 106 z) (hz : z.size = 22) (hq : w1.heap.size ≤ q) : RelO w A c G s (.pointer (some ⟨q, 0, none⟩)) (W.setCells q 0 (scells (.slice (some ⟨m, 0, none⟩) 0 0) s ⟨#[]⟩).toList) := by
  have hb2 : Below q W (W.setCells q 0 (scells (.slice (some ⟨m, 0, none⟩) 0 0) s ⟨#[]⟩).toList) := setCells_below (Nat.le_refl _) _ _ _
  have hb3 : Below w1.heap.size w1 (W.setCells q 0 (scells (.slice (some ⟨m, 0, none⟩) 0 0) s ⟨#[]⟩).toList) := hb.trans (hb2.mono hq)
  exact ⟨q, m, rfl, setCells_blk hB hz, h1.below hb3, hC.same (hb3.block _ (by omega)), hK.same (hb3.block _ (by omega)), Nat.le_trans hsz hb3.size⟩
theorem relO_rn {w W : World} {A : Option Addr} {c G : Nat} {s : Ms} {p : Value} (h : RelO w A c G s p W) : Rn w A c s W := by
  obtain ⟨q, M, _, _, h, _⟩ := h
  exact h
/-- What the second region begins with. -/
structure R2 (w : World) (A : Option Addr) (c G : Nat) (s : Ms) (q : Nat) (M : Value) (W : World) : Prop where
  q : Blk W q 106 (scells M s ⟨#[]⟩)
  r : Rn w A c s W
  c : CodeAt (G + 1) W
  k : OkAt (G + 1 + 1) W
  l : G + 3 ≤ W.heap.size
section
variable {w W W' : World} {A : Option Addr} {c G q pc rd st fin : Nat} {r : Nat → UInt32} {s : Ms} {M : Value}
theorem R2.below (h : R2 w A c G s q M W) (hb : Below W.heap.size W W') : R2 w A c G s q M W' :=
  have hl := h.l
  ⟨h.q.below hb h.q.lt, h.r.below hb, h.c.same (hb.block _ (by omega)), h.k.same (hb.block _ (by omega)), Nat.le_trans hl hb.size⟩
theorem R2.alloc (h : R2 w A c G s q M W) (x : Obj) : R2 w A c G s q M (W.alloc x) := h.below ((Below.refl _ W).alloc (Nat.le_refl _) x)
theorem R2.bytes (h : R2 w A c G s q M W) (S : ByteArray) : R2 w A c G s q M (Lib.bytesWorld W 5 S) := h.below (Go.Joins.below_bytesWorld W.heap.size W 5 S (Nat.le_refl _))
theorem R2.drew (h : R2 w A c G s q M W) : R2 w A c G s q M W.drew := h.below (Below.refl _ W).drew
theorem R2.range (h : R2 w A c G s q M W) : W.rangeAt q 0 (scells M s ⟨#[]⟩).toList := fun j v hv => by
  rw [Nat.zero_add, h.q.cell j]
  simpa using hv
end
/-- What a run's loop begins with. -/
theorem ro_bytes (W : World) (e : TypeId) : Ro (Lib.bytesWorld W e ⟨#[]⟩) e W.heap.size (grownCap W 0 0 e) [] := by
  obtain ⟨o, cap, h1, _, h2⟩ := Ro.of_gr (Gr.bytes W 0 e ⟨#[]⟩ (Nat.zero_le _))
  injection h1 with h1 _ h3
  injection h1 with h1
  injection h1 with h1
  subst h1 h3
  exact h2
def RelW (w : World) (A : Option Addr) (c : Nat) (inp : ByteArray) (s : Ms) (p : Value) (W : World) : Prop :=
  ∃ (E : Env) (o cap : Nat), p = .pointer (some ⟨E.g, 0, none⟩) ∧ E.B = w.heap.size + 3 ∧ E.inp = inp ∧ E.mem.oneCell' = true ∧ Wk E o cap s W ∧ Rn w A c s W
theorem relW_end {w W0 W : World} {A : Option Addr} {c G q o n g : Nat} {s : Ms} {M : Value} {z : Array Value} {inp : ByteArray} (hM1 : M.oneCell' = true) (ho : s.out = []) (h : R2 w A c G s q M W0) (htop : w.heap.size + 1 + 1 < G)
    (hb : Below W0.heap.size W0 W) (hB : Blk W g 125 z) (hz : z.size = 28) (hN : Blk W n 3 (madeCells #[.int .i64 0] 34)) {cap : Nat} (hO : Ro W 5 o cap [])
    (hg : W0.heap.size ≤ g) (hn : W0.heap.size ≤ n) (ho2 : W0.heap.size ≤ o) (h1 : g ≠ n) (h2 : g ≠ o) (h3 : n ≠ o) :
    R2 w A c G s q M (W.setCells g 0 (wcells ⟨w.heap.size + 3, g, n, G + 1, G + 1 + 1, M, .slice A 34 c, inp⟩ s (.slice (some ⟨o, 0, none⟩) 0 cap)).toList) ∧ RelW w A c inp s (.pointer (some ⟨g, 0, none⟩)) (W.setCells g 0 (wcells ⟨w.heap.size + 3, g, n, G + 1, G + 1 + 1, M, .slice A 34 c, inp⟩ s (.slice (some ⟨o, 0, none⟩) 0 cap)).toList) := by
  have hl := h.l
  have far : ∀ k, k ≠ g → (W.setCells g 0 (wcells ⟨w.heap.size + 3, g, n, G + 1, G + 1 + 1, M, .slice A 34 c, inp⟩ s (.slice (some ⟨o, 0, none⟩) 0 cap)).toList).heap[k]? = W.heap[k]? := fun k hk => setCells_other hk _ _ _
  have hW := h.below hb
  have hbl : Below g W (W.setCells g 0 (wcells ⟨w.heap.size + 3, g, n, G + 1, G + 1 + 1, M, .slice A 34 c, inp⟩ s (.slice (some ⟨o, 0, none⟩) 0 cap)).toList) := setCells_below (Nat.le_refl _) _ _ _
  have hlW := hW.l
  have hgl := hB.lt
  refine ⟨h.below (hb.trans (hbl.mono hg)), ⟨w.heap.size + 3, g, n, G + 1, G + 1 + 1, M, .slice A 34 c, inp⟩, o, cap, rfl, rfl, rfl, hM1, ⟨?_, ?_, ?_, ?_, ⟨_, (far n h1.symm).trans hN, fun k hk => ⟨0, ?_, Nat.zero_le _⟩⟩, ?_, ?_, ?_⟩, hW.r.keep hbl (by omega)⟩
  · rw [ho]
    exact setCells_blk hB hz
  · rw [ho]; exact hO.same (far o h2.symm)
  · exact hW.c.same (far _ (by show G + 1 ≠ g; omega))
  · exact hW.k.same (far _ (by show G + 1 + 1 ≠ g; omega))
  · rw [← Array.getElem?_toList]
    show (madeCells #[.int .i64 0] 34).toList[k]? = _
    rw [toList_madeCells_one, List.getElem?_replicate, if_pos hk]; rfl
  · exact ⟨h1, by show g ≠ G + 1; omega, by show g ≠ G + 1 + 1; omega, by show n ≠ G + 1; omega, by show n ≠ G + 1 + 1; omega, h2.symm, h3.symm, by show o ≠ G + 1; omega, by show o ≠ G + 1 + 1; omega, by show w.heap.size + 3 ≤ g; omega, by show w.heap.size + 3 ≤ n; omega, by show w.heap.size + 3 ≤ o; omega⟩
  · show G + 1 < _; have := hbl.size; omega
  · show G + 1 + 1 < _; have := hbl.size; omega
theorem results_row2 {P : Program} {fn : Func} {p u : Tmp} {ty : TypeId} (h : fn.results = #[.cell p ty, .tmp u]) (tmps : Array Value) (W : World) (g : Nat) (cs : Array Value) (d : TypeDesc)
    (hp : tmps.getD p undef = .pointer (some ⟨g, 0, none⟩)) (hB : Blk W g ty cs) (hu : P.underlying ty = some d) (hd : (match d with | .struct _ | .array _ _ => true | _ => false) = true) (hi : (P.info? ty).map (·.size) = some cs.size) :
    (results fn tmps).run P W = .ok (.tuple #[.agg cs, tmps.getD u undef]) W := by
  rw [results_cell_tmp h, hp]
  simp [asAddr, run_loadVar_row W g ty ty cs (0, 0) d hB hu hd hi, Result.andThen]
def RelE (w : World) (A : Option Addr) (c : Nat) (E : Env) (fuel : Nat) (s : Ms) (W : World) : Prop :=
  ∃ o cap : Nat, Wk E o cap (itr E.inp.data.toList fuel s) W ∧ Rn w A c s W
theorem relE_of {w W : World} {A : Option Addr} {c fuel j o cap : Nat} {E : Env} {s : Ms} (h : j = fuel ∨ (itr E.inp.data.toList j s).fin ≠ 0) (hj : j ≤ fuel) (hW : Wk E o cap (itr E.inp.data.toList j s) W) (hR : Rn w A c s W) : RelE w A c E fuel s W := by
  rcases h with rfl | h
  · exact ⟨o, cap, hW, hR⟩
  · exact ⟨o, cap, by rw [itr_stop h hj]; exact hW, hR⟩
theorem run_bounds {inp : ByteArray} {j fuel : Nat} {s : Ms} (hs : Hid (s = s0)) (hf : fuel ≤ 40 * (inp.size + 1)) (hj : j ≤ fuel) (hin : inp.size ≤ 20000) :
    (itr inp.data.toList j s).pc < 34 ∧ (itr inp.data.toList j s).st ≤ 1000000 ∧ (itr inp.data.toList j s).rd ≤ inp.size ∧ (itr inp.data.toList j s).out.length ≤ 10000 := by
  have hl : inp.data.toList.length = inp.size := rfl
  rw [hs.out]
  have h1 := itr_pc inp.data.toList j
  have h2 := itr_st inp.data.toList j
  have h3 := seed_out inp.data.toList j (by rw [hl]; omega)
  rw [hl] at h2 h3
  exact ⟨h1, by omega, h2.2, by omega⟩
/-- The end of a run: the state's box, its output put in, the counts, the result's box. -/
structure Fin9 (w : World) (E : Env) (S : Ms) (T : ByteArray) (W : World) : Prop where
  b : ∃ cs, Blk W E.g 125 cs ∧ (∀ (j : Nat) (v : Value), (scells E.mem S T).toList[j]? = some v → cs[j]? = some v) ∧ cs[27]? = some (.slice (some ⟨E.c, 0, none⟩) 34 34)
  z : ∃ z, Blk W (w.heap.size + 1 + 1) 106 z ∧ z.size = 22
  l : w.heap.size + 3 ≤ E.g
  bel : Below w.heap.size w W
theorem scells_one {M : Value} {S : Ms} {T : ByteArray} (h : M.oneCell' = true) : (scells M S T).all (·.oneCell') = true := by
  unfold scells
  cases M with
  | agg x => simp [Value.oneCell'] at h
  | tuple x => simp [Value.oneCell'] at h
  | _ => kernel_rfl
theorem scells_at {E : Env} {S : Ms} {T : ByteArray} {v : Value} : ∀ (j : Nat) (u : Value), (scells E.mem S T).toList[j]? = some u → ((wcells E S v).setIfInBounds 19 (.string T))[j]? = some u := by
  intro j u h
  match j, h with
  | 0, h => exact h
  | 1, h => exact h
  | 2, h => exact h
  | 3, h => exact h
  | 4, h => exact h
  | 5, h => exact h
  | 6, h => exact h
  | 7, h => exact h
  | 8, h => exact h
  | 9, h => exact h
  | 10, h => exact h
  | 11, h => exact h
  | 12, h => exact h
  | 13, h => exact h
  | 14, h => exact h
  | 15, h => exact h
  | 16, h => exact h
  | 17, h => exact h
  | 18, h => exact h
  | 19, h => exact h
  | 20, h => exact h
  | 21, h => exact h
  | n + 22, h => cases h
theorem fin_of {w W : World} {A : Option Addr} {c o cap : Nat} {E : Env} {S s : Ms} (hW : Wk E o cap S W) (hR : Rn w A c s W) (hB : w.heap.size + 3 ≤ E.B) : Fin9 w E S ⟨S.out.toArray⟩ (W.setCell ⟨E.g, 19, none⟩ (.string ⟨S.out.toArray⟩)) := by
  have hg := hW.ap.bg
  obtain ⟨z, hz, h22⟩ := hR.z
  refine ⟨⟨_, hW.bx.set 19 _, scells_at, rfl⟩, ⟨z, hz.far (p := ⟨E.g, 19, none⟩) (by show w.heap.size + 1 + 1 ≠ E.g; omega) _, h22⟩, by omega, hR.bel.setCell (p := ⟨E.g, 19, none⟩) (by show w.heap.size ≤ E.g; omega) _⟩
theorem Fin9.drew {w W : World} {E : Env} {S : Ms} {T : ByteArray} (h : Fin9 w E S T W) : Fin9 w E S T W.drew := ⟨h.b, h.z, h.l, h.bel.drew⟩
theorem Fin9.range {w W : World} {E : Env} {S : Ms} {T : ByteArray} (h : Fin9 w E S T W) : W.rangeAt E.g 0 (scells E.mem S T).toList := fun j v hv => by
  obtain ⟨cs, h1, h2, _⟩ := h.b
  rw [Nat.zero_add]
  exact (h1.cell j).trans (h2 j v hv)
theorem Fin9.cnt {w W : World} {E : Env} {S : Ms} {T : ByteArray} (h : Fin9 w E S T W) : W.cell? ⟨E.g, 27, none⟩ = some (.slice (some ⟨E.c, 0, none⟩) 34 34) := by
  obtain ⟨cs, h1, _, h3⟩ := h.b
  exact (h1.cell 27).trans h3
theorem Fin9.put {w W : World} {E : Env} {S : Ms} {T : ByteArray} (h : Fin9 w E S T W) : W.there (w.heap.size + 1 + 1) 0 22 ∧ Fin9 w E S T (W.setCells (w.heap.size + 1 + 1) 0 (scells E.mem S T).toList) ∧ Blk (W.setCells (w.heap.size + 1 + 1) 0 (scells E.mem S T).toList) (w.heap.size + 1 + 1) 106 (scells E.mem S T) := by
  obtain ⟨cs, h1, h2, h3⟩ := h.b
  obtain ⟨z, hz, h22⟩ := h.z
  have hl := h.l
  have hb := setCells_blk (cs := scells E.mem S T) hz h22
  exact ⟨there_blk hz (Nat.le_of_eq h22.symm), ⟨⟨cs, (setCells_other (by omega) _ _ _).trans h1, h2, h3⟩, ⟨_, hb, rfl⟩, hl, h.bel.trans (setCells_below (by omega) _ _ _)⟩, hb⟩
def RunPost (inp : ByteArray) (fuel : Nat) (s : Ms) (w : World) (e : Ending) (w' : World) : Prop :=
  (∃ v mem t, e = .returned (.tuple #[.agg (scells mem (itr inp.data.toList fuel s) t), v]) ∧ Hid (t.data.toList = (itr inp.data.toList fuel s).out) ∧ Hid (mem.oneCell' = true)) ∧ Below w.heap.size w w'

theorem ld16 (W : World) (b : Nat) (rs : List Value) {P : Program} (rg : W.rangeAt b 1 rs) (k16 : (P.info? 104).map (·.size) = some rs.length) (u16 : P.underlying 104 = some (.array 16 47)) :
    (Instr.loadAt 104 (.pointer (some ⟨b, 1, none⟩))).run P W = .ok (.agg rs.toArray) W :=
  run_loadAt_mid W b 1 _ rs _ rg u16 rfl k16
set_option maxRecDepth 100000 in
set_option maxHeartbeats 4000000 in
theorem ref_run (A : Option Addr) (c pc rd st fin : Nat) (r : Nat → UInt32) (inp : ByteArray) (fuel : Nat) (w : World) (hA : Sl w w.heap.size A 34 (seedW.map wv)) (hin : inp.size ≤ 20000) (hfu : fuel ≤ 40 * (inp.size + 1)) (hs0 : Hid ((⟨pc, r, rd, [], st, fin⟩ : Ms) = s0)) :
    Calls Tryd.prog 72 #[.agg #[.slice A 34 c, .int .i64 0], .string inp, .agg #[.int .i64 pc, .int .u32 (r 0).toNat, .int .u32 (r 1).toNat, .int .u32 (r 2).toNat, .int .u32 (r 3).toNat, .int .u32 (r 4).toNat, .int .u32 (r 5).toNat, .int .u32 (r 6).toNat, .int .u32 (r 7).toNat, .int .u32 (r 8).toNat, .int .u32 (r 9).toNat, .int .u32 (r 10).toNat, .int .u32 (r 11).toNat, .int .u32 (r 12).toNat, .int .u32 (r 13).toNat, .int .u32 (r 14).toNat, .int .u32 (r 15).toNat, .slice none 0 0, .int .i64 rd, .string ⟨#[]⟩, .int .i64 st, .int .i64 fin], .int .i64 fuel] w (RunPost inp fuel ⟨pc, r, rd, [], st, fin⟩ w) := by
  have h0 := Rn.new w A c ⟨pc, r, rd, [], st, fin⟩ #[.int .i64 0, .int .u32 0, .int .u32 0, .int .u32 0, .int .u32 0, .int .u32 0, .int .u32 0, .int .u32 0, .int .u32 0, .int .u32 0, .int .u32 0, .int .u32 0, .int .u32 0, .int .u32 0, .int .u32 0, .int .u32 0, .int .u32 0, .slice none 0 0, .int .i64 0, .string ⟨#[]⟩, .int .i64 0, .int .i64 0] rfl
  unfold scells at h0
  dsimp only at h0
  go_enter Tryd.func72, Tryd.ntmps72
  go_wp2_with fail
  generalize World.alloc _ _ = W0 at h0 ⊢
  have m0 := h0.m.cell 0
  have m1 := h0.m.cell 1
  have hbz := h0.bel.size
  have htop := h0.top
  go_wp2_with fail
  refine (ref_Code A c W0 ((hA.below h0.bel).more hbz)).mono ?_
  rintro e w1 ⟨rfl, hC⟩
  have h1 := h0.below hC.bel
  obtain ⟨hcode, hok⟩ := hC.at_end
  have hsz := hC.lt
  generalize W0.heap.size = G at hcode hok hsz htop ⊢
  have HC := Lib.hid hcode
  have HK := Lib.hid hok
  have HA := Lib.hid hA
  clear hcode hok hC h0 m0 m1 hA hbz
  go_wp2_with fail
  go_cut [12] from 20 to 34 (fun p wr => RelO w A c G ⟨pc, r, rd, [], st, fin⟩ p wr)
  case first =>
    skip
    have k16 : (Tryd.prog.info? 104).map (·.size) = some ([.int .u32 (r 0).toNat, .int .u32 (r 1).toNat, .int .u32 (r 2).toNat, .int .u32 (r 3).toNat, .int .u32 (r 4).toNat, .int .u32 (r 5).toNat, .int .u32 (r 6).toNat, .int .u32 (r 7).toNat, .int .u32 (r 8).toNat, .int .u32 (r 9).toNat, .int .u32 (r 10).toNat, .int .u32 (r 11).toNat, .int .u32 (r 12).toNat, .int .u32 (r 13).toNat, .int .u32 (r 14).toNat, .int .u32 (r 15).toNat] : List Value).length := by kernel_rfl
    have u16 := Tryd.underlying104
    refine wp_region_held_drew (S := (fun W => Rn w A c ⟨pc, r, rd, [], st, fin⟩ W)) (by kernel_rfl) h1.drew (fun hHeld => ?_)
    refine wpAnyH_take (i := 0) (v := ?_) rfl (by kernel_rfl) (by kernel_rfl) (by kernel_rfl) (fun _ _ _ h => h) (Or.inl ⟨by kernel_rfl, ?_⟩) (by assumption) ?_
    rotate_left
    · intro w hSw; obtain ⟨⟨d0, d17, d18, d19, d20, d21⟩, m0, rg, -⟩ := Rn.cells hSw; go_simp; (try with_reducible rfl)
    try simp only [Act.put, List.getElem_toArray, List.getElem_cons_zero, List.setIfInBounds_toArray, List.set_cons_zero, List.set_cons_succ]
    refine wpAnyH_take (i := 1) (v := ?_) rfl (by kernel_rfl) (by kernel_rfl) (by kernel_rfl) (fun _ _ _ h => h) (Or.inl ⟨by kernel_rfl, ?_⟩) (by assumption) ?_
    rotate_left
    · intro w hSw; obtain ⟨⟨d0, d17, d18, d19, d20, d21⟩, m0, rg, -⟩ := Rn.cells hSw; go_simp; (try with_reducible rfl)
    try simp only [Act.put, List.getElem_toArray, List.getElem_cons_succ, List.getElem_cons_zero, List.setIfInBounds_toArray, List.set_cons_zero, List.set_cons_succ]
    refine wpAnyH_take (i := 2) (v := ?_) rfl (by kernel_rfl) (by kernel_rfl) (by kernel_rfl) (fun _ _ _ h => h) (Or.inl ⟨by kernel_rfl, ?_⟩) (by assumption) ?_
    rotate_left
    · intro w hSw; obtain ⟨⟨d0, d17, d18, d19, d20, d21⟩, m0, rg, -⟩ := Rn.cells hSw; go_simp; (try with_reducible rfl)
    try simp only [Act.put, List.getElem_toArray, List.getElem_cons_succ, List.getElem_cons_zero, List.setIfInBounds_toArray, List.set_cons_zero, List.set_cons_succ]
    refine wpAnyH_take (i := 3) (v := .agg #[.int .u32 (r 0).toNat, .int .u32 (r 1).toNat, .int .u32 (r 2).toNat, .int .u32 (r 3).toNat, .int .u32 (r 4).toNat, .int .u32 (r 5).toNat, .int .u32 (r 6).toNat, .int .u32 (r 7).toNat, .int .u32 (r 8).toNat, .int .u32 (r 9).toNat, .int .u32 (r 10).toNat, .int .u32 (r 11).toNat, .int .u32 (r 12).toNat, .int .u32 (r 13).toNat, .int .u32 (r 14).toNat, .int .u32 (r 15).toNat]) rfl (by kernel_rfl) (by kernel_rfl) (by kernel_rfl) (fun _ _ _ h => h) (yieldsIf_load_mid (by kernel_rfl) 104 _ rfl (w.heap.size + 1) 1 rfl [.int .u32 (r 0).toNat, .int .u32 (r 1).toNat, .int .u32 (r 2).toNat, .int .u32 (r 3).toNat, .int .u32 (r 4).toNat, .int .u32 (r 5).toNat, .int .u32 (r 6).toNat, .int .u32 (r 7).toNat, .int .u32 (r 8).toNat, .int .u32 (r 9).toNat, .int .u32 (r 10).toNat, .int .u32 (r 11).toNat, .int .u32 (r 12).toNat, .int .u32 (r 13).toNat, .int .u32 (r 14).toNat, .int .u32 (r 15).toNat] _ (fun W hW => (Rn.cells hW).2.2.1) u16 rfl k16) (by assumption) ?_
    try simp only [Act.put, List.getElem_toArray, List.getElem_cons_succ, List.getElem_cons_zero, List.setIfInBounds_toArray, List.set_cons_zero, List.set_cons_succ]
    refine wpAnyH_take (i := 5) (v := ?_) rfl (by kernel_rfl) (by kernel_rfl) (by kernel_rfl) (fun _ _ _ h => h) (Or.inl ⟨by kernel_rfl, ?_⟩) (by assumption) ?_
    rotate_left
    · intro w hSw; obtain ⟨⟨d0, d17, d18, d19, d20, d21⟩, m0, rg, -⟩ := Rn.cells hSw; go_simp; (try with_reducible rfl)
    try simp only [Act.put, List.getElem_toArray, List.getElem_cons_succ, List.getElem_cons_zero, List.setIfInBounds_toArray, List.set_cons_zero, List.set_cons_succ]
    refine wpAnyH_take (i := 6) (v := ?_) rfl (by kernel_rfl) (by kernel_rfl) (by kernel_rfl) (fun _ _ _ h => h) (Or.inl ⟨by kernel_rfl, ?_⟩) (by assumption) ?_
    rotate_left
    · intro w hSw; obtain ⟨⟨d0, d17, d18, d19, d20, d21⟩, m0, rg, -⟩ := Rn.cells hSw; go_simp; (try with_reducible rfl)
    try simp only [Act.put, List.getElem_toArray, List.getElem_cons_succ, List.getElem_cons_zero, List.setIfInBounds_toArray, List.set_cons_zero, List.set_cons_succ]
    refine wpAnyH_take (i := 8) (v := ?_) rfl (by kernel_rfl) (by kernel_rfl) (by kernel_rfl) (fun _ _ _ h => h) (Or.inl ⟨by kernel_rfl, ?_⟩) (by assumption) ?_
    rotate_left
    · intro w hSw; obtain ⟨⟨d0, d17, d18, d19, d20, d21⟩, m0, rg, -⟩ := Rn.cells hSw; go_simp; (try with_reducible rfl)
    try simp only [Act.put, List.getElem_toArray, List.getElem_cons_succ, List.getElem_cons_zero, List.setIfInBounds_toArray, List.set_cons_zero, List.set_cons_succ]
    refine wpAnyH_take (i := 9) (v := ?_) rfl (by kernel_rfl) (by kernel_rfl) (by kernel_rfl) (fun _ _ _ h => h) (Or.inl ⟨by kernel_rfl, ?_⟩) (by assumption) ?_
    rotate_left
    · intro w hSw; obtain ⟨⟨d0, d17, d18, d19, d20, d21⟩, m0, rg, -⟩ := Rn.cells hSw; go_simp; (try with_reducible rfl)
    try simp only [Act.put, List.getElem_toArray, List.getElem_cons_succ, List.getElem_cons_zero, List.setIfInBounds_toArray, List.set_cons_zero, List.set_cons_succ]
    refine wpAnyH_take (i := 10) (v := ?_) rfl (by kernel_rfl) (by kernel_rfl) (by kernel_rfl) (fun _ _ _ h => h) (Or.inl ⟨by kernel_rfl, ?_⟩) (by assumption) ?_
    rotate_left
    · intro w hSw; obtain ⟨⟨d0, d17, d18, d19, d20, d21⟩, m0, rg, -⟩ := Rn.cells hSw; go_simp; (try with_reducible rfl)
    try simp only [Act.put, List.getElem_toArray, List.getElem_cons_succ, List.getElem_cons_zero, List.setIfInBounds_toArray, List.set_cons_zero, List.set_cons_succ]
    refine wpAnyH_take (i := 11) (v := ?_) rfl (by kernel_rfl) (by kernel_rfl) (by kernel_rfl) (fun _ _ _ h => h) (Or.inl ⟨by kernel_rfl, ?_⟩) (by assumption) ?_
    rotate_left
    · intro w hSw; obtain ⟨⟨d0, d17, d18, d19, d20, d21⟩, m0, rg, -⟩ := Rn.cells hSw; go_simp; (try with_reducible rfl)
    try simp only [Act.put, List.getElem_toArray, List.getElem_cons_succ, List.getElem_cons_zero, List.setIfInBounds_toArray, List.set_cons_zero, List.set_cons_succ]
    refine wpAnyH_take (i := 12) (v := ?_) rfl (by kernel_rfl) (by kernel_rfl) (by kernel_rfl) (fun _ _ _ h => h) (Or.inl ⟨by kernel_rfl, ?_⟩) (by assumption) ?_
    rotate_left
    · intro w hSw; obtain ⟨⟨d0, d17, d18, d19, d20, d21⟩, m0, rg, -⟩ := Rn.cells hSw; go_simp; (try with_reducible rfl)
    try simp only [Act.put, List.getElem_toArray, List.getElem_cons_succ, List.getElem_cons_zero, List.setIfInBounds_toArray, List.set_cons_zero, List.set_cons_succ]
    refine wpAnyH_take (i := 13) (v := ?_) rfl (by kernel_rfl) (by kernel_rfl) (by kernel_rfl) (fun _ _ _ h => h) (Or.inl ⟨by kernel_rfl, ?_⟩) (by assumption) ?_
    rotate_left
    · intro w hSw; obtain ⟨⟨d0, d17, d18, d19, d20, d21⟩, m0, rg, -⟩ := Rn.cells hSw; go_simp; (try with_reducible rfl)
    try simp only [Act.put, List.getElem_toArray, List.getElem_cons_succ, List.getElem_cons_zero, List.setIfInBounds_toArray, List.set_cons_zero, List.set_cons_succ]
    refine wpAnyH_ready (rs := [4, 15]) (by kernel_rfl) (by simp) ?_
    refine AllReadyH.cons rfl (fun K hK => ?_) (AllReadyH.cons rfl (fun K hK => ?_) AllReadyH.nil)
    · go_simp
      refine hK.out _ _ (hHeld.alloc _) (fun hHeld => ?_)
      clear hK K
      try simp only [Act.put, List.getElem_toArray, List.getElem_cons_succ, List.getElem_cons_zero, List.setIfInBounds_toArray, List.set_cons_zero, List.set_cons_succ]
      refine wpAnyH_ready (rs := [7, 15]) (by kernel_rfl) (by simp) ?_
      refine AllReadyH.cons rfl (fun K hK => ?_) (AllReadyH.cons rfl (fun K hK => ?_) AllReadyH.nil)
      · go_simp
        refine hK.out _ _ hHeld (fun hHeld => ?_)
        clear hK K
        try simp only [Act.put, List.getElem_toArray, List.getElem_cons_succ, List.getElem_cons_zero, List.setIfInBounds_toArray, List.set_cons_zero, List.set_cons_succ]
        refine wpAnyH_take (i := 14) (v := ?_) rfl (by kernel_rfl) (by kernel_rfl) (by kernel_rfl) (fun _ _ _ h => h) (Or.inl ⟨by kernel_rfl, ?_⟩) (by assumption) ?_
        rotate_left
        · intro w hSw; go_simp; (try with_reducible rfl)
        try simp only [Act.put, List.getElem_toArray, List.getElem_cons_succ, List.getElem_cons_zero, List.setIfInBounds_toArray, List.set_cons_zero, List.set_cons_succ]
        refine wpAnyH_ready (rs := [15]) (by kernel_rfl) (by simp) ?_
        refine AllReadyH.cons rfl (fun K hK => ?_) AllReadyH.nil
        go_simp
        refine hK.out _ _ (hHeld.alloc _) (fun hHeld => ?_)
        clear hK K
        try simp only [Act.put, List.getElem_toArray, List.getElem_cons_succ, List.getElem_cons_zero, List.setIfInBounds_toArray, List.set_cons_zero, List.set_cons_succ]
        have hB : Blk ((w1.drew.alloc (.cells #[] 47)).alloc (.cells #[.int .i64 0, .int .u32 0, .int .u32 0, .int .u32 0, .int .u32 0, .int .u32 0, .int .u32 0, .int .u32 0, .int .u32 0, .int .u32 0, .int .u32 0, .int .u32 0, .int .u32 0, .int .u32 0, .int .u32 0, .int .u32 0, .int .u32 0, .slice none 0 0, .int .i64 0, .string ⟨#[]⟩, .int .i64 0, .int .i64 0] 106)) (w1.heap.size + 1) 106 #[.int .i64 0, .int .u32 0, .int .u32 0, .int .u32 0, .int .u32 0, .int .u32 0, .int .u32 0, .int .u32 0, .int .u32 0, .int .u32 0, .int .u32 0, .int .u32 0, .int .u32 0, .int .u32 0, .int .u32 0, .int .u32 0, .int .u32 0, .slice none 0 0, .int .i64 0, .string ⟨#[]⟩, .int .i64 0, .int .i64 0] := by simpa using Blk.new (w1.drew.alloc (.cells #[] 47)) 106 #[.int .i64 0, .int .u32 0, .int .u32 0, .int .u32 0, .int .u32 0, .int .u32 0, .int .u32 0, .int .u32 0, .int .u32 0, .int .u32 0, .int .u32 0, .int .u32 0, .int .u32 0, .int .u32 0, .int .u32 0, .int .u32 0, .int .u32 0, .slice none 0 0, .int .i64 0, .string ⟨#[]⟩, .int .i64 0, .int .i64 0]
        have hb : Below w1.heap.size w1 ((w1.drew.alloc (.cells #[] 47)).alloc (.cells #[.int .i64 0, .int .u32 0, .int .u32 0, .int .u32 0, .int .u32 0, .int .u32 0, .int .u32 0, .int .u32 0, .int .u32 0, .int .u32 0, .int .u32 0, .int .u32 0, .int .u32 0, .int .u32 0, .int .u32 0, .int .u32 0, .int .u32 0, .slice none 0 0, .int .i64 0, .string ⟨#[]⟩, .int .i64 0, .int .i64 0] 106)) := ((Below.refl _ w1).drew.alloc (Nat.le_refl _) _).alloc (by simp) _
        have hEnd := Lib.hid (relO_end (m := w1.heap.size) h1 HC.out HK.out hsz htop hb hB rfl (Nat.le_succ _))
        refine wpAnyH_ready (rs := [16]) (by kernel_rfl) (by simp) ?_
        refine AllReadyH.cons rfl (fun K hK => ?_) AllReadyH.nil
        rw [if_pos (by kernel_rfl)]
        refine wp_store_mid 106 _ _ rfl (w1.heap.size + 1) 0 _ rfl rfl (there_blk hB (Nat.le_refl 22)) (by kernel_rfl) (by kernel_rfl) ?_
        refine hK.out _ _ (relO_rn hEnd.out) (fun hHeld => ?_)
        clear hK K
        try simp only [Act.put, List.getElem_toArray, List.getElem_cons_succ, List.getElem_cons_zero]
        refine wpAnyH_done (by kernel_rfl) ?_ _
        go_wp2_with fail
        go_meet
        case rel => exact hEnd.out
      · go_simp
        refine hK.out _ _ (hHeld.alloc _) (fun hHeld => ?_)
        clear hK K
        try simp only [Act.put, List.getElem_toArray, List.getElem_cons_succ, List.getElem_cons_zero, List.setIfInBounds_toArray, List.set_cons_zero, List.set_cons_succ]
        refine wpAnyH_ready (rs := [7]) (by kernel_rfl) (by simp) ?_
        refine AllReadyH.cons rfl (fun K hK => ?_) AllReadyH.nil
        go_simp
        refine hK.out _ _ hHeld (fun hHeld => ?_)
        clear hK K
        try simp only [Act.put, List.getElem_toArray, List.getElem_cons_succ, List.getElem_cons_zero, List.setIfInBounds_toArray, List.set_cons_zero, List.set_cons_succ]
        refine wpAnyH_take (i := 14) (v := ?_) rfl (by kernel_rfl) (by kernel_rfl) (by kernel_rfl) (fun _ _ _ h => h) (Or.inl ⟨by kernel_rfl, ?_⟩) (by assumption) ?_
        rotate_left
        · intro w hSw; go_simp; (try with_reducible rfl)
        try simp only [Act.put, List.getElem_toArray, List.getElem_cons_succ, List.getElem_cons_zero, List.setIfInBounds_toArray, List.set_cons_zero, List.set_cons_succ]
        have hB : Blk ((w1.drew.alloc (.cells #[] 47)).alloc (.cells #[.int .i64 0, .int .u32 0, .int .u32 0, .int .u32 0, .int .u32 0, .int .u32 0, .int .u32 0, .int .u32 0, .int .u32 0, .int .u32 0, .int .u32 0, .int .u32 0, .int .u32 0, .int .u32 0, .int .u32 0, .int .u32 0, .int .u32 0, .slice none 0 0, .int .i64 0, .string ⟨#[]⟩, .int .i64 0, .int .i64 0] 106)) (w1.heap.size + 1) 106 #[.int .i64 0, .int .u32 0, .int .u32 0, .int .u32 0, .int .u32 0, .int .u32 0, .int .u32 0, .int .u32 0, .int .u32 0, .int .u32 0, .int .u32 0, .int .u32 0, .int .u32 0, .int .u32 0, .int .u32 0, .int .u32 0, .int .u32 0, .slice none 0 0, .int .i64 0, .string ⟨#[]⟩, .int .i64 0, .int .i64 0] := by simpa using Blk.new (w1.drew.alloc (.cells #[] 47)) 106 #[.int .i64 0, .int .u32 0, .int .u32 0, .int .u32 0, .int .u32 0, .int .u32 0, .int .u32 0, .int .u32 0, .int .u32 0, .int .u32 0, .int .u32 0, .int .u32 0, .int .u32 0, .int .u32 0, .int .u32 0, .int .u32 0, .int .u32 0, .slice none 0 0, .int .i64 0, .string ⟨#[]⟩, .int .i64 0, .int .i64 0]
        have hb : Below w1.heap.size w1 ((w1.drew.alloc (.cells #[] 47)).alloc (.cells #[.int .i64 0, .int .u32 0, .int .u32 0, .int .u32 0, .int .u32 0, .int .u32 0, .int .u32 0, .int .u32 0, .int .u32 0, .int .u32 0, .int .u32 0, .int .u32 0, .int .u32 0, .int .u32 0, .int .u32 0, .int .u32 0, .int .u32 0, .slice none 0 0, .int .i64 0, .string ⟨#[]⟩, .int .i64 0, .int .i64 0] 106)) := ((Below.refl _ w1).drew.alloc (Nat.le_refl _) _).alloc (by simp) _
        have hEnd := Lib.hid (relO_end (m := w1.heap.size) h1 HC.out HK.out hsz htop hb hB rfl (Nat.le_succ _))
        refine wpAnyH_ready (rs := [16]) (by kernel_rfl) (by simp) ?_
        refine AllReadyH.cons rfl (fun K hK => ?_) AllReadyH.nil
        rw [if_pos (by kernel_rfl)]
        refine wp_store_mid 106 _ _ rfl (w1.heap.size + 1) 0 _ rfl rfl (there_blk hB (Nat.le_refl 22)) (by kernel_rfl) (by kernel_rfl) ?_
        refine hK.out _ _ (relO_rn hEnd.out) (fun hHeld => ?_)
        clear hK K
        try simp only [Act.put, List.getElem_toArray, List.getElem_cons_succ, List.getElem_cons_zero]
        refine wpAnyH_done (by kernel_rfl) ?_ _
        go_wp2_with fail
        go_meet
        case rel => exact hEnd.out
    · go_simp
      refine hK.out _ _ (hHeld.alloc _) (fun hHeld => ?_)
      clear hK K
      try simp only [Act.put, List.getElem_toArray, List.getElem_cons_succ, List.getElem_cons_zero, List.setIfInBounds_toArray, List.set_cons_zero, List.set_cons_succ]
      refine wpAnyH_ready (rs := [4]) (by kernel_rfl) (by simp) ?_
      refine AllReadyH.cons rfl (fun K hK => ?_) AllReadyH.nil
      go_simp
      refine hK.out _ _ (hHeld.alloc _) (fun hHeld => ?_)
      clear hK K
      try simp only [Act.put, List.getElem_toArray, List.getElem_cons_succ, List.getElem_cons_zero, List.setIfInBounds_toArray, List.set_cons_zero, List.set_cons_succ]
      refine wpAnyH_ready (rs := [7]) (by kernel_rfl) (by simp) ?_
      refine AllReadyH.cons rfl (fun K hK => ?_) AllReadyH.nil
      go_simp
      refine hK.out _ _ hHeld (fun hHeld => ?_)
      clear hK K
      try simp only [Act.put, List.getElem_toArray, List.getElem_cons_succ, List.getElem_cons_zero, List.setIfInBounds_toArray, List.set_cons_zero, List.set_cons_succ]
      refine wpAnyH_take (i := 14) (v := ?_) rfl (by kernel_rfl) (by kernel_rfl) (by kernel_rfl) (fun _ _ _ h => h) (Or.inl ⟨by kernel_rfl, ?_⟩) (by assumption) ?_
      rotate_left
      · intro w hSw; go_simp; (try with_reducible rfl)
      try simp only [Act.put, List.getElem_toArray, List.getElem_cons_succ, List.getElem_cons_zero, List.setIfInBounds_toArray, List.set_cons_zero, List.set_cons_succ]
      have hB : Blk ((w1.drew.alloc (.cells #[.int .i64 0, .int .u32 0, .int .u32 0, .int .u32 0, .int .u32 0, .int .u32 0, .int .u32 0, .int .u32 0, .int .u32 0, .int .u32 0, .int .u32 0, .int .u32 0, .int .u32 0, .int .u32 0, .int .u32 0, .int .u32 0, .int .u32 0, .slice none 0 0, .int .i64 0, .string ⟨#[]⟩, .int .i64 0, .int .i64 0] 106)).alloc (.cells #[] 47)) w1.heap.size 106 #[.int .i64 0, .int .u32 0, .int .u32 0, .int .u32 0, .int .u32 0, .int .u32 0, .int .u32 0, .int .u32 0, .int .u32 0, .int .u32 0, .int .u32 0, .int .u32 0, .int .u32 0, .int .u32 0, .int .u32 0, .int .u32 0, .int .u32 0, .slice none 0 0, .int .i64 0, .string ⟨#[]⟩, .int .i64 0, .int .i64 0] := (Blk.new w1.drew 106 #[.int .i64 0, .int .u32 0, .int .u32 0, .int .u32 0, .int .u32 0, .int .u32 0, .int .u32 0, .int .u32 0, .int .u32 0, .int .u32 0, .int .u32 0, .int .u32 0, .int .u32 0, .int .u32 0, .int .u32 0, .int .u32 0, .int .u32 0, .slice none 0 0, .int .i64 0, .string ⟨#[]⟩, .int .i64 0, .int .i64 0]).alloc _
      have hb : Below w1.heap.size w1 ((w1.drew.alloc (.cells #[.int .i64 0, .int .u32 0, .int .u32 0, .int .u32 0, .int .u32 0, .int .u32 0, .int .u32 0, .int .u32 0, .int .u32 0, .int .u32 0, .int .u32 0, .int .u32 0, .int .u32 0, .int .u32 0, .int .u32 0, .int .u32 0, .int .u32 0, .slice none 0 0, .int .i64 0, .string ⟨#[]⟩, .int .i64 0, .int .i64 0] 106)).alloc (.cells #[] 47)) := ((Below.refl _ w1).drew.alloc (Nat.le_refl _) _).alloc (by simp) _
      have hEnd := Lib.hid (relO_end (m := w1.heap.size + 1) h1 HC.out HK.out hsz htop hb hB rfl (Nat.le_refl _))
      refine wpAnyH_ready (rs := [16]) (by kernel_rfl) (by simp) ?_
      refine AllReadyH.cons rfl (fun K hK => ?_) AllReadyH.nil
      rw [if_pos (by kernel_rfl)]
      refine wp_store_mid 106 _ _ rfl w1.heap.size 0 _ rfl rfl (there_blk hB (Nat.le_refl 22)) (by kernel_rfl) (by kernel_rfl) ?_
      refine hK.out _ _ (relO_rn hEnd.out) (fun hHeld => ?_)
      clear hK K
      try simp only [Act.put, List.getElem_toArray, List.getElem_cons_succ, List.getElem_cons_zero]
      refine wpAnyH_done (by kernel_rfl) ?_ _
      go_wp2_with fail
      go_meet
      case rel => exact hEnd.out
  case rest =>
    obtain ⟨q, m, rfl, hq, hRn, hC, hK, hsz2⟩ := hcut
    have h2 : R2 w A c G ⟨pc, r, rd, [], st, fin⟩ q (.slice (some ⟨m, 0, none⟩) 0 0) wc := ⟨hq, hRn, hC, hK, hsz2⟩
    clear hq hRn hC hK hsz2 hsz h1 HC HK
    go_wp2_with fail
    go_cut [13] from 35 to 48 (fun p wr => RelW w A c inp ⟨pc, r, rd, [], st, fin⟩ p wr)
    case first =>
      have k22 : (Tryd.prog.info? 106).map (·.size) = some 22 := by kernel_rfl
      have u22 := Tryd.underlying106
      have k34 : ∀ W : World, (Instr.makeSlice 54 (.int .i64 34) (.int .i64 34)).run Tryd.prog W = .ok (.slice (some ⟨W.heap.size, 0, none⟩) 34 34) (W.alloc (.cells (madeCells #[.int .i64 0] 34) 3)) :=
        fun W => run_make34 _ W _ _ (.int .i64 0) 1 8 Tryd.underlying54 (by kernel_rfl) (by decide)
      have hcb := fun (W : World) => Lib.run_convert_string_bytes (P := Tryd.prog) W 9 38 5 ⟨#[]⟩ Tryd.underlying9 Tryd.underlying38 Tryd.underlying5
      refine wp_region_held_drew (S := (fun W => R2 w A c G ⟨pc, r, rd, [], st, fin⟩ q (.slice (some ⟨m, 0, none⟩) 0 0) W)) (by kernel_rfl) h2.drew (fun hHeld => ?_)
      refine wpAnyH_take (i := 0) (v := .agg (scells (.slice (some ⟨m, 0, none⟩) 0 0) ⟨pc, r, rd, [], st, fin⟩ ⟨#[]⟩)) rfl (by kernel_rfl) (by kernel_rfl) (by kernel_rfl) (fun _ _ _ h => h) (yieldsIf_load_mid (by kernel_rfl) 106 _ rfl q 0 rfl (scells (.slice (some ⟨m, 0, none⟩) 0 0) ⟨pc, r, rd, [], st, fin⟩ ⟨#[]⟩).toList _ (fun W hW => R2.range hW) u22 rfl k22) (by assumption) ?_
      try simp only [Act.put, List.getElem_toArray, List.getElem_cons_zero, List.setIfInBounds_toArray, List.set_cons_zero, List.set_cons_succ]
      refine wpAnyH_take (i := 1) (v := ?_) rfl (by kernel_rfl) (by kernel_rfl) (by kernel_rfl) (fun _ _ _ h => h) (Or.inl ⟨by kernel_rfl, ?_⟩) (by assumption) ?_
      rotate_left
      · intro w hSw; have hRs := Rn.cells (R2.r hSw); obtain ⟨⟨d0, d17, d18, d19, d20, d21⟩, m0, -, -⟩ := hRs; go_simp; (try with_reducible rfl)
      try simp only [Act.put, List.getElem_toArray, List.getElem_cons_succ, List.getElem_cons_zero, List.setIfInBounds_toArray, List.set_cons_zero, List.set_cons_succ]
      refine wpAnyH_take (i := 2) (v := ?_) rfl (by kernel_rfl) (by kernel_rfl) (by kernel_rfl) (fun _ _ _ h => h) (Or.inl ⟨by kernel_rfl, ?_⟩) (by assumption) ?_
      rotate_left
      · intro w hSw; have hRs := Rn.cells (R2.r hSw); obtain ⟨⟨d0, d17, d18, d19, d20, d21⟩, m0, -, -⟩ := hRs; go_simp; (try with_reducible rfl)
      try simp only [Act.put, List.getElem_toArray, List.getElem_cons_succ, List.getElem_cons_zero, List.setIfInBounds_toArray, List.set_cons_zero, List.set_cons_succ]
      refine wpAnyH_take (i := 4) (v := ?_) rfl (by kernel_rfl) (by kernel_rfl) (by kernel_rfl) (fun _ _ _ h => h) (Or.inl ⟨by kernel_rfl, ?_⟩) (by assumption) ?_
      rotate_left
      · intro w hSw; have hRs := Rn.cells (R2.r hSw); obtain ⟨⟨d0, d17, d18, d19, d20, d21⟩, m0, -, -⟩ := hRs; go_simp; (try with_reducible rfl)
      try simp only [Act.put, List.getElem_toArray, List.getElem_cons_succ, List.getElem_cons_zero, List.setIfInBounds_toArray, List.set_cons_zero, List.set_cons_succ]
      refine wpAnyH_take (i := 5) (v := ?_) rfl (by kernel_rfl) (by kernel_rfl) (by kernel_rfl) (fun _ _ _ h => h) (Or.inl ⟨by kernel_rfl, ?_⟩) (by assumption) ?_
      rotate_left
      · intro w hSw; have hRs := Rn.cells (R2.r hSw); obtain ⟨⟨d0, d17, d18, d19, d20, d21⟩, m0, -, -⟩ := hRs; go_simp; (try with_reducible rfl)
      try simp only [Act.put, List.getElem_toArray, List.getElem_cons_succ, List.getElem_cons_zero, List.setIfInBounds_toArray, List.set_cons_zero, List.set_cons_succ]
      refine wpAnyH_take (i := 6) (v := ?_) rfl (by kernel_rfl) (by kernel_rfl) (by kernel_rfl) (fun _ _ _ h => h) (Or.inl ⟨by kernel_rfl, ?_⟩) (by assumption) ?_
      rotate_left
      · intro w hSw; have hRs := Rn.cells (R2.r hSw); obtain ⟨⟨d0, d17, d18, d19, d20, d21⟩, m0, -, -⟩ := hRs; go_simp; (try with_reducible rfl)
      try simp only [Act.put, List.getElem_toArray, List.getElem_cons_succ, List.getElem_cons_zero, List.setIfInBounds_toArray, List.set_cons_zero, List.set_cons_succ]
      refine wpAnyH_take (i := 7) (v := ?_) rfl (by kernel_rfl) (by kernel_rfl) (by kernel_rfl) (fun _ _ _ h => h) (Or.inl ⟨by kernel_rfl, ?_⟩) (by assumption) ?_
      rotate_left
      · intro w hSw; have hRs := Rn.cells (R2.r hSw); obtain ⟨⟨d0, d17, d18, d19, d20, d21⟩, m0, -, -⟩ := hRs; go_simp; (try with_reducible rfl)
      try simp only [Act.put, List.getElem_toArray, List.getElem_cons_succ, List.getElem_cons_zero, List.setIfInBounds_toArray, List.set_cons_zero, List.set_cons_succ]
      refine wpAnyH_take (i := 8) (v := ?_) rfl (by kernel_rfl) (by kernel_rfl) (by kernel_rfl) (fun _ _ _ h => h) (Or.inl ⟨by kernel_rfl, ?_⟩) (by assumption) ?_
      rotate_left
      · intro w hSw; have hRs := Rn.cells (R2.r hSw); obtain ⟨⟨d0, d17, d18, d19, d20, d21⟩, m0, -, -⟩ := hRs; go_simp; (try with_reducible rfl)
      try simp only [Act.put, List.getElem_toArray, List.getElem_cons_succ, List.getElem_cons_zero, List.setIfInBounds_toArray, List.set_cons_zero, List.set_cons_succ]
      refine wpAnyH_take (i := 9) (v := ?_) rfl (by kernel_rfl) (by kernel_rfl) (by kernel_rfl) (fun _ _ _ h => h) (Or.inl ⟨by kernel_rfl, ?_⟩) (by assumption) ?_
      rotate_left
      · intro w hSw; have hRs := Rn.cells (R2.r hSw); obtain ⟨⟨d0, d17, d18, d19, d20, d21⟩, m0, -, -⟩ := hRs; go_simp; (try with_reducible rfl)
      try simp only [Act.put, List.getElem_toArray, List.getElem_cons_succ, List.getElem_cons_zero, List.setIfInBounds_toArray, List.set_cons_zero, List.set_cons_succ]
      refine wpAnyH_take (i := 10) (v := ?_) rfl (by kernel_rfl) (by kernel_rfl) (by kernel_rfl) (fun _ _ _ h => h) (Or.inl ⟨by kernel_rfl, ?_⟩) (by assumption) ?_
      rotate_left
      · intro w hSw; have hRs := Rn.cells (R2.r hSw); obtain ⟨⟨d0, d17, d18, d19, d20, d21⟩, m0, -, -⟩ := hRs; go_simp; (try with_reducible rfl)
      try simp only [Act.put, List.getElem_toArray, List.getElem_cons_succ, List.getElem_cons_zero, List.setIfInBounds_toArray, List.set_cons_zero, List.set_cons_succ]
      refine wpAnyH_take (i := 11) (v := ?_) rfl (by kernel_rfl) (by kernel_rfl) (by kernel_rfl) (fun _ _ _ h => h) (Or.inl ⟨by kernel_rfl, ?_⟩) (by assumption) ?_
      rotate_left
      · intro w hSw; have hRs := Rn.cells (R2.r hSw); obtain ⟨⟨d0, d17, d18, d19, d20, d21⟩, m0, -, -⟩ := hRs; go_simp; (try with_reducible rfl)
      try simp only [Act.put, List.getElem_toArray, List.getElem_cons_succ, List.getElem_cons_zero, List.setIfInBounds_toArray, List.set_cons_zero, List.set_cons_succ]
      generalize World.drew wc = W0 at hHeld ⊢
      have hHeld0 := Lib.hid hHeld
      refine wpAnyH_ready (rs := [3, 12, 14]) (by kernel_rfl) (by simp) ?_
      refine AllReadyH.cons rfl (fun K hK => ?_) (AllReadyH.cons rfl (fun K hK => ?_) (AllReadyH.cons rfl (fun K hK => ?_) AllReadyH.nil))
      · go_simp
        have b0 := Go.Joins.below_bytesWorld W0.heap.size W0 5 ⟨#[]⟩ (Nat.le_refl _)
        have f0 := ro_bytes W0 5
        have s0 := Lib.bytesWorld_size W0 5 ⟨#[]⟩
        have hR := hHeld.bytes ⟨#[]⟩
        generalize Lib.bytesWorld W0 5 ⟨#[]⟩ = W1 at b0 f0 s0 hR ⊢
        replace s0 := Lib.hid s0
        refine hK.out _ _ hR (fun hHeld => ?_)
        clear hK K hR
        try simp only [Act.put, List.getElem_toArray, List.getElem_cons_succ, List.getElem_cons_zero, List.setIfInBounds_toArray, List.set_cons_zero, List.set_cons_succ]
        refine wpAnyH_ready (rs := [12, 14]) (by kernel_rfl) (by simp) ?_
        refine AllReadyH.cons rfl (fun K hK => ?_) (AllReadyH.cons rfl (fun K hK => ?_) AllReadyH.nil)
        · go_simp
          have b1 := (Below.refl W1.heap.size W1).alloc (Nat.le_refl _) (.cells (madeCells #[.int .i64 0] 34) 3)
          have f1 := Blk.new W1 3 (madeCells #[.int .i64 0] 34)
          have s1 : (World.alloc W1 (.cells (madeCells #[.int .i64 0] 34) 3)).heap.size = W1.heap.size + 1 := by simp
          have hR := hHeld.alloc (.cells (madeCells #[.int .i64 0] 34) 3)
          generalize World.alloc W1 (.cells (madeCells #[.int .i64 0] 34) 3) = W2 at b1 f1 s1 hR ⊢
          replace s1 := Lib.hid s1
          refine hK.out _ _ hR (fun hHeld => ?_)
          clear hK K hR
          try simp only [Act.put, List.getElem_toArray, List.getElem_cons_succ, List.getElem_cons_zero, List.setIfInBounds_toArray, List.set_cons_zero, List.set_cons_succ]
          refine wpAnyH_take (i := 13) (v := .agg (wcells ⟨w.heap.size + 3, 0, W1.heap.size, G + 1, G + 1 + 1, .slice (some ⟨m, 0, none⟩) 0 0, .slice A 34 c, inp⟩ ⟨pc, r, rd, [], st, fin⟩ (.slice (some ⟨W0.heap.size, 0, none⟩) 0 (grownCap W0 0 0 5)))) rfl (by kernel_rfl) (by kernel_rfl) (by kernel_rfl) (fun _ _ _ h => h) (Or.inl ⟨by kernel_rfl, fun _ _ => by kernel_rfl⟩) (by assumption) ?_
          try simp only [Act.put, List.getElem_toArray, List.getElem_cons_succ, List.getElem_cons_zero, List.setIfInBounds_toArray, List.set_cons_zero, List.set_cons_succ]
          refine wpAnyH_ready (rs := [14]) (by kernel_rfl) (by simp) ?_
          refine AllReadyH.cons rfl (fun K hK => ?_) AllReadyH.nil
          go_simp
          have b2 := (Below.refl W2.heap.size W2).alloc (Nat.le_refl _) (.cells #[.int .i64 0, .int .u32 0, .int .u32 0, .int .u32 0, .int .u32 0, .int .u32 0, .int .u32 0, .int .u32 0, .int .u32 0, .int .u32 0, .int .u32 0, .int .u32 0, .int .u32 0, .int .u32 0, .int .u32 0, .int .u32 0, .int .u32 0, .slice none 0 0, .int .i64 0, .string ⟨#[]⟩, .int .i64 0, .int .i64 0, .slice none 0 0, .slice none 0 0, .slice none 0 0, .slice none 0 0, .string ⟨#[]⟩, .slice none 0 0] 125)
          have f2 := Blk.new W2 125 #[.int .i64 0, .int .u32 0, .int .u32 0, .int .u32 0, .int .u32 0, .int .u32 0, .int .u32 0, .int .u32 0, .int .u32 0, .int .u32 0, .int .u32 0, .int .u32 0, .int .u32 0, .int .u32 0, .int .u32 0, .int .u32 0, .int .u32 0, .slice none 0 0, .int .i64 0, .string ⟨#[]⟩, .int .i64 0, .int .i64 0, .slice none 0 0, .slice none 0 0, .slice none 0 0, .slice none 0 0, .string ⟨#[]⟩, .slice none 0 0]
          have s2 : (World.alloc W2 (.cells #[.int .i64 0, .int .u32 0, .int .u32 0, .int .u32 0, .int .u32 0, .int .u32 0, .int .u32 0, .int .u32 0, .int .u32 0, .int .u32 0, .int .u32 0, .int .u32 0, .int .u32 0, .int .u32 0, .int .u32 0, .int .u32 0, .int .u32 0, .slice none 0 0, .int .i64 0, .string ⟨#[]⟩, .int .i64 0, .int .i64 0, .slice none 0 0, .slice none 0 0, .slice none 0 0, .slice none 0 0, .string ⟨#[]⟩, .slice none 0 0] 125)).heap.size = W2.heap.size + 1 := by simp
          have hR := hHeld.alloc (.cells #[.int .i64 0, .int .u32 0, .int .u32 0, .int .u32 0, .int .u32 0, .int .u32 0, .int .u32 0, .int .u32 0, .int .u32 0, .int .u32 0, .int .u32 0, .int .u32 0, .int .u32 0, .int .u32 0, .int .u32 0, .int .u32 0, .int .u32 0, .slice none 0 0, .int .i64 0, .string ⟨#[]⟩, .int .i64 0, .int .i64 0, .slice none 0 0, .slice none 0 0, .slice none 0 0, .slice none 0 0, .string ⟨#[]⟩, .slice none 0 0] 125)
          generalize World.alloc W2 (.cells #[.int .i64 0, .int .u32 0, .int .u32 0, .int .u32 0, .int .u32 0, .int .u32 0, .int .u32 0, .int .u32 0, .int .u32 0, .int .u32 0, .int .u32 0, .int .u32 0, .int .u32 0, .int .u32 0, .int .u32 0, .int .u32 0, .int .u32 0, .slice none 0 0, .int .i64 0, .string ⟨#[]⟩, .int .i64 0, .int .i64 0, .slice none 0 0, .slice none 0 0, .slice none 0 0, .slice none 0 0, .string ⟨#[]⟩, .slice none 0 0] 125) = W3 at b2 f2 s2 hR ⊢
          replace s2 := Lib.hid s2
          refine hK.out _ _ hR (fun hHeld => ?_)
          clear hK K hR
          try simp only [Act.put, List.getElem_toArray, List.getElem_cons_succ, List.getElem_cons_zero, List.setIfInBounds_toArray, List.set_cons_zero, List.set_cons_succ]
          have hEnd := Lib.hid (relW_end (inp := inp) rfl rfl hHeld0.out htop ((b0.trans (b1.mono b0.size)).trans (b2.mono (Nat.le_trans b0.size b1.size))) f2 rfl (Blk.below f1 b2 (Blk.lt f1)) (Ro.same (Ro.same f0 (b1.block _ (Ro.lt f0))) (b2.block _ (Ro.lt (Ro.same f0 (b1.block _ (Ro.lt f0)))))) (g := W2.heap.size) (n := W1.heap.size) (o := W0.heap.size) (by have := b0.size; have := b1.size; omega) (by have := b0.size; have := b1.size; omega) (by have := b0.size; have := b1.size; omega) (by have := s0.out; have := s1.out; omega) (by have := s0.out; have := s1.out; omega) (by have := s0.out; have := s1.out; omega))
          have hB := Lib.hid f2
          clear b0 b1 b2 f0 f1 f2
          refine wpAnyH_ready (rs := [15]) (by kernel_rfl) (by simp) ?_
          refine AllReadyH.cons rfl (fun K hK => ?_) AllReadyH.nil
          rw [if_pos (by kernel_rfl)]
          refine wp_store_mid 125 _ _ rfl W2.heap.size 0 _ rfl rfl (there_blk hB.out (Nat.le_refl 28)) (by kernel_rfl) (by kernel_rfl) ?_
          refine hK.out _ _ hEnd.out.1 (fun _ => ?_)
          clear hK K
          try simp only [Act.put, List.getElem_toArray, List.getElem_cons_succ, List.getElem_cons_zero]
          refine wpAnyH_done (by kernel_rfl) ?_ _
          go_wp2_with fail
          go_meet
          case rel => exact hEnd.out.2
        · go_simp
          have b1 := (Below.refl W1.heap.size W1).alloc (Nat.le_refl _) (.cells #[.int .i64 0, .int .u32 0, .int .u32 0, .int .u32 0, .int .u32 0, .int .u32 0, .int .u32 0, .int .u32 0, .int .u32 0, .int .u32 0, .int .u32 0, .int .u32 0, .int .u32 0, .int .u32 0, .int .u32 0, .int .u32 0, .int .u32 0, .slice none 0 0, .int .i64 0, .string ⟨#[]⟩, .int .i64 0, .int .i64 0, .slice none 0 0, .slice none 0 0, .slice none 0 0, .slice none 0 0, .string ⟨#[]⟩, .slice none 0 0] 125)
          have f1 := Blk.new W1 125 #[.int .i64 0, .int .u32 0, .int .u32 0, .int .u32 0, .int .u32 0, .int .u32 0, .int .u32 0, .int .u32 0, .int .u32 0, .int .u32 0, .int .u32 0, .int .u32 0, .int .u32 0, .int .u32 0, .int .u32 0, .int .u32 0, .int .u32 0, .slice none 0 0, .int .i64 0, .string ⟨#[]⟩, .int .i64 0, .int .i64 0, .slice none 0 0, .slice none 0 0, .slice none 0 0, .slice none 0 0, .string ⟨#[]⟩, .slice none 0 0]
          have s1 : (World.alloc W1 (.cells #[.int .i64 0, .int .u32 0, .int .u32 0, .int .u32 0, .int .u32 0, .int .u32 0, .int .u32 0, .int .u32 0, .int .u32 0, .int .u32 0, .int .u32 0, .int .u32 0, .int .u32 0, .int .u32 0, .int .u32 0, .int .u32 0, .int .u32 0, .slice none 0 0, .int .i64 0, .string ⟨#[]⟩, .int .i64 0, .int .i64 0, .slice none 0 0, .slice none 0 0, .slice none 0 0, .slice none 0 0, .string ⟨#[]⟩, .slice none 0 0] 125)).heap.size = W1.heap.size + 1 := by simp
          have hR := hHeld.alloc (.cells #[.int .i64 0, .int .u32 0, .int .u32 0, .int .u32 0, .int .u32 0, .int .u32 0, .int .u32 0, .int .u32 0, .int .u32 0, .int .u32 0, .int .u32 0, .int .u32 0, .int .u32 0, .int .u32 0, .int .u32 0, .int .u32 0, .int .u32 0, .slice none 0 0, .int .i64 0, .string ⟨#[]⟩, .int .i64 0, .int .i64 0, .slice none 0 0, .slice none 0 0, .slice none 0 0, .slice none 0 0, .string ⟨#[]⟩, .slice none 0 0] 125)
          generalize World.alloc W1 (.cells #[.int .i64 0, .int .u32 0, .int .u32 0, .int .u32 0, .int .u32 0, .int .u32 0, .int .u32 0, .int .u32 0, .int .u32 0, .int .u32 0, .int .u32 0, .int .u32 0, .int .u32 0, .int .u32 0, .int .u32 0, .int .u32 0, .int .u32 0, .slice none 0 0, .int .i64 0, .string ⟨#[]⟩, .int .i64 0, .int .i64 0, .slice none 0 0, .slice none 0 0, .slice none 0 0, .slice none 0 0, .string ⟨#[]⟩, .slice none 0 0] 125) = W2 at b1 f1 s1 hR ⊢
          replace s1 := Lib.hid s1
          refine hK.out _ _ hR (fun hHeld => ?_)
          clear hK K hR
          try simp only [Act.put, List.getElem_toArray, List.getElem_cons_succ, List.getElem_cons_zero, List.setIfInBounds_toArray, List.set_cons_zero, List.set_cons_succ]
          refine wpAnyH_ready (rs := [12]) (by kernel_rfl) (by simp) ?_
          refine AllReadyH.cons rfl (fun K hK => ?_) AllReadyH.nil
          go_simp
          have b2 := (Below.refl W2.heap.size W2).alloc (Nat.le_refl _) (.cells (madeCells #[.int .i64 0] 34) 3)
          have f2 := Blk.new W2 3 (madeCells #[.int .i64 0] 34)
          have s2 : (World.alloc W2 (.cells (madeCells #[.int .i64 0] 34) 3)).heap.size = W2.heap.size + 1 := by simp
          have hR := hHeld.alloc (.cells (madeCells #[.int .i64 0] 34) 3)
          generalize World.alloc W2 (.cells (madeCells #[.int .i64 0] 34) 3) = W3 at b2 f2 s2 hR ⊢
          replace s2 := Lib.hid s2
          refine hK.out _ _ hR (fun hHeld => ?_)
          clear hK K hR
          try simp only [Act.put, List.getElem_toArray, List.getElem_cons_succ, List.getElem_cons_zero, List.setIfInBounds_toArray, List.set_cons_zero, List.set_cons_succ]
          refine wpAnyH_take (i := 13) (v := .agg (wcells ⟨w.heap.size + 3, 0, W2.heap.size, G + 1, G + 1 + 1, .slice (some ⟨m, 0, none⟩) 0 0, .slice A 34 c, inp⟩ ⟨pc, r, rd, [], st, fin⟩ (.slice (some ⟨W0.heap.size, 0, none⟩) 0 (grownCap W0 0 0 5)))) rfl (by kernel_rfl) (by kernel_rfl) (by kernel_rfl) (fun _ _ _ h => h) (Or.inl ⟨by kernel_rfl, fun _ _ => by kernel_rfl⟩) (by assumption) ?_
          try simp only [Act.put, List.getElem_toArray, List.getElem_cons_succ, List.getElem_cons_zero, List.setIfInBounds_toArray, List.set_cons_zero, List.set_cons_succ]
          have hEnd := Lib.hid (relW_end (inp := inp) rfl rfl hHeld0.out htop ((b0.trans (b1.mono b0.size)).trans (b2.mono (Nat.le_trans b0.size b1.size))) (Blk.below f1 b2 (Blk.lt f1)) rfl f2 (Ro.same (Ro.same f0 (b1.block _ (Ro.lt f0))) (b2.block _ (Ro.lt (Ro.same f0 (b1.block _ (Ro.lt f0)))))) (g := W1.heap.size) (n := W2.heap.size) (o := W0.heap.size) (by have := b0.size; have := b1.size; omega) (by have := b0.size; have := b1.size; omega) (by have := b0.size; have := b1.size; omega) (by have := s0.out; have := s1.out; omega) (by have := s0.out; have := s1.out; omega) (by have := s0.out; have := s1.out; omega))
          have hB := Lib.hid (Blk.below f1 b2 (Blk.lt f1))
          clear b0 b1 b2 f0 f1 f2
          refine wpAnyH_ready (rs := [15]) (by kernel_rfl) (by simp) ?_
          refine AllReadyH.cons rfl (fun K hK => ?_) AllReadyH.nil
          rw [if_pos (by kernel_rfl)]
          refine wp_store_mid 125 _ _ rfl W1.heap.size 0 _ rfl rfl (there_blk hB.out (Nat.le_refl 28)) (by kernel_rfl) (by kernel_rfl) ?_
          refine hK.out _ _ hEnd.out.1 (fun _ => ?_)
          clear hK K
          try simp only [Act.put, List.getElem_toArray, List.getElem_cons_succ, List.getElem_cons_zero]
          refine wpAnyH_done (by kernel_rfl) ?_ _
          go_wp2_with fail
          go_meet
          case rel => exact hEnd.out.2
      · go_simp
        have b0 := (Below.refl W0.heap.size W0).alloc (Nat.le_refl _) (.cells (madeCells #[.int .i64 0] 34) 3)
        have f0 := Blk.new W0 3 (madeCells #[.int .i64 0] 34)
        have s0 : (World.alloc W0 (.cells (madeCells #[.int .i64 0] 34) 3)).heap.size = W0.heap.size + 1 := by simp
        have hR := hHeld.alloc (.cells (madeCells #[.int .i64 0] 34) 3)
        generalize World.alloc W0 (.cells (madeCells #[.int .i64 0] 34) 3) = W1 at b0 f0 s0 hR ⊢
        replace s0 := Lib.hid s0
        refine hK.out _ _ hR (fun hHeld => ?_)
        clear hK K hR
        try simp only [Act.put, List.getElem_toArray, List.getElem_cons_succ, List.getElem_cons_zero, List.setIfInBounds_toArray, List.set_cons_zero, List.set_cons_succ]
        refine wpAnyH_ready (rs := [3, 14]) (by kernel_rfl) (by simp) ?_
        refine AllReadyH.cons rfl (fun K hK => ?_) (AllReadyH.cons rfl (fun K hK => ?_) AllReadyH.nil)
        · go_simp
          have b1 := Go.Joins.below_bytesWorld W1.heap.size W1 5 ⟨#[]⟩ (Nat.le_refl _)
          have f1 := ro_bytes W1 5
          have s1 := Lib.bytesWorld_size W1 5 ⟨#[]⟩
          have hR := hHeld.bytes ⟨#[]⟩
          generalize Lib.bytesWorld W1 5 ⟨#[]⟩ = W2 at b1 f1 s1 hR ⊢
          replace s1 := Lib.hid s1
          refine hK.out _ _ hR (fun hHeld => ?_)
          clear hK K hR
          try simp only [Act.put, List.getElem_toArray, List.getElem_cons_succ, List.getElem_cons_zero, List.setIfInBounds_toArray, List.set_cons_zero, List.set_cons_succ]
          refine wpAnyH_take (i := 13) (v := .agg (wcells ⟨w.heap.size + 3, 0, W0.heap.size, G + 1, G + 1 + 1, .slice (some ⟨m, 0, none⟩) 0 0, .slice A 34 c, inp⟩ ⟨pc, r, rd, [], st, fin⟩ (.slice (some ⟨W1.heap.size, 0, none⟩) 0 (grownCap W1 0 0 5)))) rfl (by kernel_rfl) (by kernel_rfl) (by kernel_rfl) (fun _ _ _ h => h) (Or.inl ⟨by kernel_rfl, fun _ _ => by kernel_rfl⟩) (by assumption) ?_
          try simp only [Act.put, List.getElem_toArray, List.getElem_cons_succ, List.getElem_cons_zero, List.setIfInBounds_toArray, List.set_cons_zero, List.set_cons_succ]
          refine wpAnyH_ready (rs := [14]) (by kernel_rfl) (by simp) ?_
          refine AllReadyH.cons rfl (fun K hK => ?_) AllReadyH.nil
          go_simp
          have b2 := (Below.refl W2.heap.size W2).alloc (Nat.le_refl _) (.cells #[.int .i64 0, .int .u32 0, .int .u32 0, .int .u32 0, .int .u32 0, .int .u32 0, .int .u32 0, .int .u32 0, .int .u32 0, .int .u32 0, .int .u32 0, .int .u32 0, .int .u32 0, .int .u32 0, .int .u32 0, .int .u32 0, .int .u32 0, .slice none 0 0, .int .i64 0, .string ⟨#[]⟩, .int .i64 0, .int .i64 0, .slice none 0 0, .slice none 0 0, .slice none 0 0, .slice none 0 0, .string ⟨#[]⟩, .slice none 0 0] 125)
          have f2 := Blk.new W2 125 #[.int .i64 0, .int .u32 0, .int .u32 0, .int .u32 0, .int .u32 0, .int .u32 0, .int .u32 0, .int .u32 0, .int .u32 0, .int .u32 0, .int .u32 0, .int .u32 0, .int .u32 0, .int .u32 0, .int .u32 0, .int .u32 0, .int .u32 0, .slice none 0 0, .int .i64 0, .string ⟨#[]⟩, .int .i64 0, .int .i64 0, .slice none 0 0, .slice none 0 0, .slice none 0 0, .slice none 0 0, .string ⟨#[]⟩, .slice none 0 0]
          have s2 : (World.alloc W2 (.cells #[.int .i64 0, .int .u32 0, .int .u32 0, .int .u32 0, .int .u32 0, .int .u32 0, .int .u32 0, .int .u32 0, .int .u32 0, .int .u32 0, .int .u32 0, .int .u32 0, .int .u32 0, .int .u32 0, .int .u32 0, .int .u32 0, .int .u32 0, .slice none 0 0, .int .i64 0, .string ⟨#[]⟩, .int .i64 0, .int .i64 0, .slice none 0 0, .slice none 0 0, .slice none 0 0, .slice none 0 0, .string ⟨#[]⟩, .slice none 0 0] 125)).heap.size = W2.heap.size + 1 := by simp
          have hR := hHeld.alloc (.cells #[.int .i64 0, .int .u32 0, .int .u32 0, .int .u32 0, .int .u32 0, .int .u32 0, .int .u32 0, .int .u32 0, .int .u32 0, .int .u32 0, .int .u32 0, .int .u32 0, .int .u32 0, .int .u32 0, .int .u32 0, .int .u32 0, .int .u32 0, .slice none 0 0, .int .i64 0, .string ⟨#[]⟩, .int .i64 0, .int .i64 0, .slice none 0 0, .slice none 0 0, .slice none 0 0, .slice none 0 0, .string ⟨#[]⟩, .slice none 0 0] 125)
          generalize World.alloc W2 (.cells #[.int .i64 0, .int .u32 0, .int .u32 0, .int .u32 0, .int .u32 0, .int .u32 0, .int .u32 0, .int .u32 0, .int .u32 0, .int .u32 0, .int .u32 0, .int .u32 0, .int .u32 0, .int .u32 0, .int .u32 0, .int .u32 0, .int .u32 0, .slice none 0 0, .int .i64 0, .string ⟨#[]⟩, .int .i64 0, .int .i64 0, .slice none 0 0, .slice none 0 0, .slice none 0 0, .slice none 0 0, .string ⟨#[]⟩, .slice none 0 0] 125) = W3 at b2 f2 s2 hR ⊢
          replace s2 := Lib.hid s2
          refine hK.out _ _ hR (fun hHeld => ?_)
          clear hK K hR
          try simp only [Act.put, List.getElem_toArray, List.getElem_cons_succ, List.getElem_cons_zero, List.setIfInBounds_toArray, List.set_cons_zero, List.set_cons_succ]
          have hEnd := Lib.hid (relW_end (inp := inp) rfl rfl hHeld0.out htop ((b0.trans (b1.mono b0.size)).trans (b2.mono (Nat.le_trans b0.size b1.size))) f2 rfl (Blk.below (Blk.below f0 b1 (Blk.lt f0)) b2 (Blk.lt (Blk.below f0 b1 (Blk.lt f0)))) (Ro.same f1 (b2.block _ (Ro.lt f1))) (g := W2.heap.size) (n := W0.heap.size) (o := W1.heap.size) (by have := b0.size; have := b1.size; omega) (by have := b0.size; have := b1.size; omega) (by have := b0.size; have := b1.size; omega) (by have := s0.out; have := s1.out; omega) (by have := s0.out; have := s1.out; omega) (by have := s0.out; have := s1.out; omega))
          have hB := Lib.hid f2
          clear b0 b1 b2 f0 f1 f2
          refine wpAnyH_ready (rs := [15]) (by kernel_rfl) (by simp) ?_
          refine AllReadyH.cons rfl (fun K hK => ?_) AllReadyH.nil
          rw [if_pos (by kernel_rfl)]
          refine wp_store_mid 125 _ _ rfl W2.heap.size 0 _ rfl rfl (there_blk hB.out (Nat.le_refl 28)) (by kernel_rfl) (by kernel_rfl) ?_
          refine hK.out _ _ hEnd.out.1 (fun _ => ?_)
          clear hK K
          try simp only [Act.put, List.getElem_toArray, List.getElem_cons_succ, List.getElem_cons_zero]
          refine wpAnyH_done (by kernel_rfl) ?_ _
          go_wp2_with fail
          go_meet
          case rel => exact hEnd.out.2
        · go_simp
          have b1 := (Below.refl W1.heap.size W1).alloc (Nat.le_refl _) (.cells #[.int .i64 0, .int .u32 0, .int .u32 0, .int .u32 0, .int .u32 0, .int .u32 0, .int .u32 0, .int .u32 0, .int .u32 0, .int .u32 0, .int .u32 0, .int .u32 0, .int .u32 0, .int .u32 0, .int .u32 0, .int .u32 0, .int .u32 0, .slice none 0 0, .int .i64 0, .string ⟨#[]⟩, .int .i64 0, .int .i64 0, .slice none 0 0, .slice none 0 0, .slice none 0 0, .slice none 0 0, .string ⟨#[]⟩, .slice none 0 0] 125)
          have f1 := Blk.new W1 125 #[.int .i64 0, .int .u32 0, .int .u32 0, .int .u32 0, .int .u32 0, .int .u32 0, .int .u32 0, .int .u32 0, .int .u32 0, .int .u32 0, .int .u32 0, .int .u32 0, .int .u32 0, .int .u32 0, .int .u32 0, .int .u32 0, .int .u32 0, .slice none 0 0, .int .i64 0, .string ⟨#[]⟩, .int .i64 0, .int .i64 0, .slice none 0 0, .slice none 0 0, .slice none 0 0, .slice none 0 0, .string ⟨#[]⟩, .slice none 0 0]
          have s1 : (World.alloc W1 (.cells #[.int .i64 0, .int .u32 0, .int .u32 0, .int .u32 0, .int .u32 0, .int .u32 0, .int .u32 0, .int .u32 0, .int .u32 0, .int .u32 0, .int .u32 0, .int .u32 0, .int .u32 0, .int .u32 0, .int .u32 0, .int .u32 0, .int .u32 0, .slice none 0 0, .int .i64 0, .string ⟨#[]⟩, .int .i64 0, .int .i64 0, .slice none 0 0, .slice none 0 0, .slice none 0 0, .slice none 0 0, .string ⟨#[]⟩, .slice none 0 0] 125)).heap.size = W1.heap.size + 1 := by simp
          have hR := hHeld.alloc (.cells #[.int .i64 0, .int .u32 0, .int .u32 0, .int .u32 0, .int .u32 0, .int .u32 0, .int .u32 0, .int .u32 0, .int .u32 0, .int .u32 0, .int .u32 0, .int .u32 0, .int .u32 0, .int .u32 0, .int .u32 0, .int .u32 0, .int .u32 0, .slice none 0 0, .int .i64 0, .string ⟨#[]⟩, .int .i64 0, .int .i64 0, .slice none 0 0, .slice none 0 0, .slice none 0 0, .slice none 0 0, .string ⟨#[]⟩, .slice none 0 0] 125)
          generalize World.alloc W1 (.cells #[.int .i64 0, .int .u32 0, .int .u32 0, .int .u32 0, .int .u32 0, .int .u32 0, .int .u32 0, .int .u32 0, .int .u32 0, .int .u32 0, .int .u32 0, .int .u32 0, .int .u32 0, .int .u32 0, .int .u32 0, .int .u32 0, .int .u32 0, .slice none 0 0, .int .i64 0, .string ⟨#[]⟩, .int .i64 0, .int .i64 0, .slice none 0 0, .slice none 0 0, .slice none 0 0, .slice none 0 0, .string ⟨#[]⟩, .slice none 0 0] 125) = W2 at b1 f1 s1 hR ⊢
          replace s1 := Lib.hid s1
          refine hK.out _ _ hR (fun hHeld => ?_)
          clear hK K hR
          try simp only [Act.put, List.getElem_toArray, List.getElem_cons_succ, List.getElem_cons_zero, List.setIfInBounds_toArray, List.set_cons_zero, List.set_cons_succ]
          refine wpAnyH_ready (rs := [3]) (by kernel_rfl) (by simp) ?_
          refine AllReadyH.cons rfl (fun K hK => ?_) AllReadyH.nil
          go_simp
          have b2 := Go.Joins.below_bytesWorld W2.heap.size W2 5 ⟨#[]⟩ (Nat.le_refl _)
          have f2 := ro_bytes W2 5
          have s2 := Lib.bytesWorld_size W2 5 ⟨#[]⟩
          have hR := hHeld.bytes ⟨#[]⟩
          generalize Lib.bytesWorld W2 5 ⟨#[]⟩ = W3 at b2 f2 s2 hR ⊢
          replace s2 := Lib.hid s2
          refine hK.out _ _ hR (fun hHeld => ?_)
          clear hK K hR
          try simp only [Act.put, List.getElem_toArray, List.getElem_cons_succ, List.getElem_cons_zero, List.setIfInBounds_toArray, List.set_cons_zero, List.set_cons_succ]
          refine wpAnyH_take (i := 13) (v := .agg (wcells ⟨w.heap.size + 3, 0, W0.heap.size, G + 1, G + 1 + 1, .slice (some ⟨m, 0, none⟩) 0 0, .slice A 34 c, inp⟩ ⟨pc, r, rd, [], st, fin⟩ (.slice (some ⟨W2.heap.size, 0, none⟩) 0 (grownCap W2 0 0 5)))) rfl (by kernel_rfl) (by kernel_rfl) (by kernel_rfl) (fun _ _ _ h => h) (Or.inl ⟨by kernel_rfl, fun _ _ => by kernel_rfl⟩) (by assumption) ?_
          try simp only [Act.put, List.getElem_toArray, List.getElem_cons_succ, List.getElem_cons_zero, List.setIfInBounds_toArray, List.set_cons_zero, List.set_cons_succ]
          have hEnd := Lib.hid (relW_end (inp := inp) rfl rfl hHeld0.out htop ((b0.trans (b1.mono b0.size)).trans (b2.mono (Nat.le_trans b0.size b1.size))) (Blk.below f1 b2 (Blk.lt f1)) rfl (Blk.below (Blk.below f0 b1 (Blk.lt f0)) b2 (Blk.lt (Blk.below f0 b1 (Blk.lt f0)))) f2 (g := W1.heap.size) (n := W0.heap.size) (o := W2.heap.size) (by have := b0.size; have := b1.size; omega) (by have := b0.size; have := b1.size; omega) (by have := b0.size; have := b1.size; omega) (by have := s0.out; have := s1.out; omega) (by have := s0.out; have := s1.out; omega) (by have := s0.out; have := s1.out; omega))
          have hB := Lib.hid (Blk.below f1 b2 (Blk.lt f1))
          clear b0 b1 b2 f0 f1 f2
          refine wpAnyH_ready (rs := [15]) (by kernel_rfl) (by simp) ?_
          refine AllReadyH.cons rfl (fun K hK => ?_) AllReadyH.nil
          rw [if_pos (by kernel_rfl)]
          refine wp_store_mid 125 _ _ rfl W1.heap.size 0 _ rfl rfl (there_blk hB.out (Nat.le_refl 28)) (by kernel_rfl) (by kernel_rfl) ?_
          refine hK.out _ _ hEnd.out.1 (fun _ => ?_)
          clear hK K
          try simp only [Act.put, List.getElem_toArray, List.getElem_cons_succ, List.getElem_cons_zero]
          refine wpAnyH_done (by kernel_rfl) ?_ _
          go_wp2_with fail
          go_meet
          case rel => exact hEnd.out.2
      · go_simp
        have b0 := (Below.refl W0.heap.size W0).alloc (Nat.le_refl _) (.cells #[.int .i64 0, .int .u32 0, .int .u32 0, .int .u32 0, .int .u32 0, .int .u32 0, .int .u32 0, .int .u32 0, .int .u32 0, .int .u32 0, .int .u32 0, .int .u32 0, .int .u32 0, .int .u32 0, .int .u32 0, .int .u32 0, .int .u32 0, .slice none 0 0, .int .i64 0, .string ⟨#[]⟩, .int .i64 0, .int .i64 0, .slice none 0 0, .slice none 0 0, .slice none 0 0, .slice none 0 0, .string ⟨#[]⟩, .slice none 0 0] 125)
        have f0 := Blk.new W0 125 #[.int .i64 0, .int .u32 0, .int .u32 0, .int .u32 0, .int .u32 0, .int .u32 0, .int .u32 0, .int .u32 0, .int .u32 0, .int .u32 0, .int .u32 0, .int .u32 0, .int .u32 0, .int .u32 0, .int .u32 0, .int .u32 0, .int .u32 0, .slice none 0 0, .int .i64 0, .string ⟨#[]⟩, .int .i64 0, .int .i64 0, .slice none 0 0, .slice none 0 0, .slice none 0 0, .slice none 0 0, .string ⟨#[]⟩, .slice none 0 0]
        have s0 : (World.alloc W0 (.cells #[.int .i64 0, .int .u32 0, .int .u32 0, .int .u32 0, .int .u32 0, .int .u32 0, .int .u32 0, .int .u32 0, .int .u32 0, .int .u32 0, .int .u32 0, .int .u32 0, .int .u32 0, .int .u32 0, .int .u32 0, .int .u32 0, .int .u32 0, .slice none 0 0, .int .i64 0, .string ⟨#[]⟩, .int .i64 0, .int .i64 0, .slice none 0 0, .slice none 0 0, .slice none 0 0, .slice none 0 0, .string ⟨#[]⟩, .slice none 0 0] 125)).heap.size = W0.heap.size + 1 := by simp
        have hR := hHeld.alloc (.cells #[.int .i64 0, .int .u32 0, .int .u32 0, .int .u32 0, .int .u32 0, .int .u32 0, .int .u32 0, .int .u32 0, .int .u32 0, .int .u32 0, .int .u32 0, .int .u32 0, .int .u32 0, .int .u32 0, .int .u32 0, .int .u32 0, .int .u32 0, .slice none 0 0, .int .i64 0, .string ⟨#[]⟩, .int .i64 0, .int .i64 0, .slice none 0 0, .slice none 0 0, .slice none 0 0, .slice none 0 0, .string ⟨#[]⟩, .slice none 0 0] 125)
        generalize World.alloc W0 (.cells #[.int .i64 0, .int .u32 0, .int .u32 0, .int .u32 0, .int .u32 0, .int .u32 0, .int .u32 0, .int .u32 0, .int .u32 0, .int .u32 0, .int .u32 0, .int .u32 0, .int .u32 0, .int .u32 0, .int .u32 0, .int .u32 0, .int .u32 0, .slice none 0 0, .int .i64 0, .string ⟨#[]⟩, .int .i64 0, .int .i64 0, .slice none 0 0, .slice none 0 0, .slice none 0 0, .slice none 0 0, .string ⟨#[]⟩, .slice none 0 0] 125) = W1 at b0 f0 s0 hR ⊢
        replace s0 := Lib.hid s0
        refine hK.out _ _ hR (fun hHeld => ?_)
        clear hK K hR
        try simp only [Act.put, List.getElem_toArray, List.getElem_cons_succ, List.getElem_cons_zero, List.setIfInBounds_toArray, List.set_cons_zero, List.set_cons_succ]
        refine wpAnyH_ready (rs := [3, 12]) (by kernel_rfl) (by simp) ?_
        refine AllReadyH.cons rfl (fun K hK => ?_) (AllReadyH.cons rfl (fun K hK => ?_) AllReadyH.nil)
        · go_simp
          have b1 := Go.Joins.below_bytesWorld W1.heap.size W1 5 ⟨#[]⟩ (Nat.le_refl _)
          have f1 := ro_bytes W1 5
          have s1 := Lib.bytesWorld_size W1 5 ⟨#[]⟩
          have hR := hHeld.bytes ⟨#[]⟩
          generalize Lib.bytesWorld W1 5 ⟨#[]⟩ = W2 at b1 f1 s1 hR ⊢
          replace s1 := Lib.hid s1
          refine hK.out _ _ hR (fun hHeld => ?_)
          clear hK K hR
          try simp only [Act.put, List.getElem_toArray, List.getElem_cons_succ, List.getElem_cons_zero, List.setIfInBounds_toArray, List.set_cons_zero, List.set_cons_succ]
          refine wpAnyH_ready (rs := [12]) (by kernel_rfl) (by simp) ?_
          refine AllReadyH.cons rfl (fun K hK => ?_) AllReadyH.nil
          go_simp
          have b2 := (Below.refl W2.heap.size W2).alloc (Nat.le_refl _) (.cells (madeCells #[.int .i64 0] 34) 3)
          have f2 := Blk.new W2 3 (madeCells #[.int .i64 0] 34)
          have s2 : (World.alloc W2 (.cells (madeCells #[.int .i64 0] 34) 3)).heap.size = W2.heap.size + 1 := by simp
          have hR := hHeld.alloc (.cells (madeCells #[.int .i64 0] 34) 3)
          generalize World.alloc W2 (.cells (madeCells #[.int .i64 0] 34) 3) = W3 at b2 f2 s2 hR ⊢
          replace s2 := Lib.hid s2
          refine hK.out _ _ hR (fun hHeld => ?_)
          clear hK K hR
          try simp only [Act.put, List.getElem_toArray, List.getElem_cons_succ, List.getElem_cons_zero, List.setIfInBounds_toArray, List.set_cons_zero, List.set_cons_succ]
          refine wpAnyH_take (i := 13) (v := .agg (wcells ⟨w.heap.size + 3, 0, W2.heap.size, G + 1, G + 1 + 1, .slice (some ⟨m, 0, none⟩) 0 0, .slice A 34 c, inp⟩ ⟨pc, r, rd, [], st, fin⟩ (.slice (some ⟨W1.heap.size, 0, none⟩) 0 (grownCap W1 0 0 5)))) rfl (by kernel_rfl) (by kernel_rfl) (by kernel_rfl) (fun _ _ _ h => h) (Or.inl ⟨by kernel_rfl, fun _ _ => by kernel_rfl⟩) (by assumption) ?_
          try simp only [Act.put, List.getElem_toArray, List.getElem_cons_succ, List.getElem_cons_zero, List.setIfInBounds_toArray, List.set_cons_zero, List.set_cons_succ]
          have hEnd := Lib.hid (relW_end (inp := inp) rfl rfl hHeld0.out htop ((b0.trans (b1.mono b0.size)).trans (b2.mono (Nat.le_trans b0.size b1.size))) (Blk.below (Blk.below f0 b1 (Blk.lt f0)) b2 (Blk.lt (Blk.below f0 b1 (Blk.lt f0)))) rfl f2 (Ro.same f1 (b2.block _ (Ro.lt f1))) (g := W0.heap.size) (n := W2.heap.size) (o := W1.heap.size) (by have := b0.size; have := b1.size; omega) (by have := b0.size; have := b1.size; omega) (by have := b0.size; have := b1.size; omega) (by have := s0.out; have := s1.out; omega) (by have := s0.out; have := s1.out; omega) (by have := s0.out; have := s1.out; omega))
          have hB := Lib.hid (Blk.below (Blk.below f0 b1 (Blk.lt f0)) b2 (Blk.lt (Blk.below f0 b1 (Blk.lt f0))))
          clear b0 b1 b2 f0 f1 f2
          refine wpAnyH_ready (rs := [15]) (by kernel_rfl) (by simp) ?_
          refine AllReadyH.cons rfl (fun K hK => ?_) AllReadyH.nil
          rw [if_pos (by kernel_rfl)]
          refine wp_store_mid 125 _ _ rfl W0.heap.size 0 _ rfl rfl (there_blk hB.out (Nat.le_refl 28)) (by kernel_rfl) (by kernel_rfl) ?_
          refine hK.out _ _ hEnd.out.1 (fun _ => ?_)
          clear hK K
          try simp only [Act.put, List.getElem_toArray, List.getElem_cons_succ, List.getElem_cons_zero]
          refine wpAnyH_done (by kernel_rfl) ?_ _
          go_wp2_with fail
          go_meet
          case rel => exact hEnd.out.2
        · go_simp
          have b1 := (Below.refl W1.heap.size W1).alloc (Nat.le_refl _) (.cells (madeCells #[.int .i64 0] 34) 3)
          have f1 := Blk.new W1 3 (madeCells #[.int .i64 0] 34)
          have s1 : (World.alloc W1 (.cells (madeCells #[.int .i64 0] 34) 3)).heap.size = W1.heap.size + 1 := by simp
          have hR := hHeld.alloc (.cells (madeCells #[.int .i64 0] 34) 3)
          generalize World.alloc W1 (.cells (madeCells #[.int .i64 0] 34) 3) = W2 at b1 f1 s1 hR ⊢
          replace s1 := Lib.hid s1
          refine hK.out _ _ hR (fun hHeld => ?_)
          clear hK K hR
          try simp only [Act.put, List.getElem_toArray, List.getElem_cons_succ, List.getElem_cons_zero, List.setIfInBounds_toArray, List.set_cons_zero, List.set_cons_succ]
          refine wpAnyH_ready (rs := [3]) (by kernel_rfl) (by simp) ?_
          refine AllReadyH.cons rfl (fun K hK => ?_) AllReadyH.nil
          go_simp
          have b2 := Go.Joins.below_bytesWorld W2.heap.size W2 5 ⟨#[]⟩ (Nat.le_refl _)
          have f2 := ro_bytes W2 5
          have s2 := Lib.bytesWorld_size W2 5 ⟨#[]⟩
          have hR := hHeld.bytes ⟨#[]⟩
          generalize Lib.bytesWorld W2 5 ⟨#[]⟩ = W3 at b2 f2 s2 hR ⊢
          replace s2 := Lib.hid s2
          refine hK.out _ _ hR (fun hHeld => ?_)
          clear hK K hR
          try simp only [Act.put, List.getElem_toArray, List.getElem_cons_succ, List.getElem_cons_zero, List.setIfInBounds_toArray, List.set_cons_zero, List.set_cons_succ]
          refine wpAnyH_take (i := 13) (v := .agg (wcells ⟨w.heap.size + 3, 0, W1.heap.size, G + 1, G + 1 + 1, .slice (some ⟨m, 0, none⟩) 0 0, .slice A 34 c, inp⟩ ⟨pc, r, rd, [], st, fin⟩ (.slice (some ⟨W2.heap.size, 0, none⟩) 0 (grownCap W2 0 0 5)))) rfl (by kernel_rfl) (by kernel_rfl) (by kernel_rfl) (fun _ _ _ h => h) (Or.inl ⟨by kernel_rfl, fun _ _ => by kernel_rfl⟩) (by assumption) ?_
          try simp only [Act.put, List.getElem_toArray, List.getElem_cons_succ, List.getElem_cons_zero, List.setIfInBounds_toArray, List.set_cons_zero, List.set_cons_succ]
          have hEnd := Lib.hid (relW_end (inp := inp) rfl rfl hHeld0.out htop ((b0.trans (b1.mono b0.size)).trans (b2.mono (Nat.le_trans b0.size b1.size))) (Blk.below (Blk.below f0 b1 (Blk.lt f0)) b2 (Blk.lt (Blk.below f0 b1 (Blk.lt f0)))) rfl (Blk.below f1 b2 (Blk.lt f1)) f2 (g := W0.heap.size) (n := W1.heap.size) (o := W2.heap.size) (by have := b0.size; have := b1.size; omega) (by have := b0.size; have := b1.size; omega) (by have := b0.size; have := b1.size; omega) (by have := s0.out; have := s1.out; omega) (by have := s0.out; have := s1.out; omega) (by have := s0.out; have := s1.out; omega))
          have hB := Lib.hid (Blk.below (Blk.below f0 b1 (Blk.lt f0)) b2 (Blk.lt (Blk.below f0 b1 (Blk.lt f0))))
          clear b0 b1 b2 f0 f1 f2
          refine wpAnyH_ready (rs := [15]) (by kernel_rfl) (by simp) ?_
          refine AllReadyH.cons rfl (fun K hK => ?_) AllReadyH.nil
          rw [if_pos (by kernel_rfl)]
          refine wp_store_mid 125 _ _ rfl W0.heap.size 0 _ rfl rfl (there_blk hB.out (Nat.le_refl 28)) (by kernel_rfl) (by kernel_rfl) ?_
          refine hK.out _ _ hEnd.out.1 (fun _ => ?_)
          clear hK K
          try simp only [Act.put, List.getElem_toArray, List.getElem_cons_succ, List.getElem_cons_zero]
          refine wpAnyH_done (by kernel_rfl) ?_ _
          go_wp2_with fail
          go_meet
          case rel => exact hEnd.out.2
    case rest =>
      obtain ⟨E, o, cap, rfl, hEB, rfl, hEm, hW, hR⟩ := hcut
      have HB := Lib.hid hEB
      have HEm := Lib.hid hEm
      clear hEB h2 hEm
      go_upto_block 0 with (fail)
      go_cut [14] from 49 to 60 (fun _ wr => RelE w A c E fuel ⟨pc, r, rd, [], st, fin⟩ wr)
      case first =>
        go_wp2_with fail
        go_loopw [14] (fun i wr => ∃ (j o cap : Nat), j ≤ fuel ∧ i = .int .i64 j ∧ Wk E o cap (itr E.inp.data.toList j ⟨pc, r, rd, [], st, fin⟩) wr ∧ Rn w A c ⟨pc, r, rd, [], st, fin⟩ wr) (fun i _ => fuel - (intOf i).toNat)
        case atStart => exact ⟨0, o, cap, Nat.zero_le _, rfl, hW, hR⟩
        case round =>
          clear hW hR
          obtain ⟨j, o1, cap1, hj, rfl, hW, hR⟩ := hrel
          have hb := run_bounds hs0 hfu hj hin
          have HE := Lib.hid (fun (h : j = fuel ∨ (itr E.inp.data.toList j ⟨pc, r, rd, [], st, fin⟩).fin ≠ 0) => relE_of h hj hW hR)
          have HN := Lib.hid (itr_snoc E.inp.data.toList j ⟨pc, r, rd, [], st, fin⟩)
          generalize itr E.inp.data.toList j ⟨pc, r, rd, [], st, fin⟩ = sj at hW hb HE HN
          obtain ⟨pc1, r1, rd1, o2, st1, fin1⟩ := sj
          obtain ⟨hp1, hst1, hrd1, hout1⟩ := hb
          dsimp only at hp1 hst1 hrd1 hout1
          have c21 := hW.all.1.2.2.2.1
          dsimp only at c21
          by_cases hjf : j = fuel
          · have hd : decide (j < fuel) = false := decide_eq_false (by omega)
            have hE := Lib.hid (HE.out (.inl hjf))
            clear HE HN hW hR hjf
            go_wp2_with fail
            go_meet
            case rel => exact hE.out
          · by_cases hf : fin1 = 0
            · subst hf
              have hd : decide (j < fuel) = true := decide_eq_true (by omega)
              have HW := Lib.hid hW
              have HR := Lib.hid hR
              clear HE hW hR
              go_wp2_with fail
              refine (work_step E o1 cap1 pc1 rd1 st1 r1 o2 _ HW.out hp1 hst1 hrd1 (by omega) (by omega)).mono ?_
              rintro e w9 ⟨o', cap', h9⟩
              obtain ⟨rfl, h9, b9⟩ := h9
              have hR9 := HR.out.keep b9 (by rw [HB.out]; omega)
              have H9 := Lib.hid h9
              have HR9 := Lib.hid hR9
              clear h9 b9 hR9 HR HW c21 hd
              go_wp2_with fail
              go_roundw
              case rel => exact ⟨j + 1, o', cap', by omega, by go_num, by rw [HN.out]; first | exact H9.out | (rw [if_pos trivial]; exact H9.out) | (rw [if_pos rfl]; exact H9.out), HR9.out⟩
              case measure => simp [intOf]; omega
            · have hd : decide (j < fuel) = true := decide_eq_true (by omega)
              have hf2 : ((fin1 : Int) == 0) = false := by rw [beq_eq_false_iff_ne]; omega
              have hE := Lib.hid (HE.out (.inr hf))
              clear HE HN hW hR hjf hf
              go_wp2_with fail
              go_meet
              case rel => exact hE.out
      case rest =>
        obtain ⟨o1, cap1, hW1, hR1⟩ := hcut
        clear hW hR
        have HW := Lib.hid hW1
        have HR := Lib.hid hR1
        obtain ⟨S, hS⟩ : ∃ S, itr E.inp.data.toList fuel ⟨pc, r, rd, [], st, fin⟩ = S := ⟨_, rfl⟩
        rw [hS] at HW
        have HS := Lib.hid hS
        have hstr := HW.out.out.str (P := Tryd.prog) 38 9 Tryd.underlying38 Tryd.underlying5 Tryd.underlying9
        have c22 := HW.out.all.1.2.2.2.2.1
        have c19 := HW.out.cell 19
        have f19 := HW.out.bx.frozen 19
        have hG := fin_of HW.out HR.out (by rw [HB.out]; exact Nat.le_refl _)
        have hT : Hid ((⟨S.out.toArray⟩ : ByteArray).data.toList = S.out) := by unfold Hid; rfl
        generalize (⟨S.out.toArray⟩ : ByteArray) = T at hstr hG hT
        have HG := Lib.hid hG
        clear hW1 hR1 hS hG
        unfold wcells at c19
        go_wp2_with fail
        have h9 := HG.out
        generalize World.setCell wc _ _ = W9 at h9 ⊢
        clear c22 c19 f19 hstr HG HW HR
        have k22 : (Tryd.prog.info? 106).map (·.size) = some 22 := by kernel_rfl
        have u22 := Tryd.underlying106
        refine wp_region_held_drew (S := (fun W => Fin9 w E S T W)) (by kernel_rfl) h9.drew (fun hHeld => ?_)
        clear h9
        refine wpAnyH_take (i := 0) (v := ?_) rfl (by kernel_rfl) (by kernel_rfl) (by kernel_rfl) (fun _ _ _ h => h) (Or.inl ⟨by kernel_rfl, ?_⟩) (by assumption) ?_
        rotate_left
        · intro w hSw; have hc27 := Fin9.cnt hSw; go_simp; (try with_reducible rfl)
        try simp only [Act.put, List.getElem_toArray, List.getElem_cons_zero, List.setIfInBounds_toArray, List.set_cons_zero, List.set_cons_succ]
        refine wpAnyH_take (i := 1) (v := .agg (scells E.mem S T)) rfl (by kernel_rfl) (by kernel_rfl) (by kernel_rfl) (fun _ _ _ h => h) (yieldsIf_load_mid (by kernel_rfl) 106 _ rfl E.g 0 rfl (scells E.mem S T).toList _ (fun W hW => Fin9.range hW) u22 rfl k22) (by assumption) ?_
        try simp only [Act.put, List.getElem_toArray, List.getElem_cons_succ, List.getElem_cons_zero, List.setIfInBounds_toArray, List.set_cons_zero, List.set_cons_succ]
        refine wpAnyH_take (i := 2) (v := ?_) rfl (by kernel_rfl) (by kernel_rfl) (by kernel_rfl) (fun _ _ _ h => h) (Or.inl ⟨by kernel_rfl, ?_⟩) (by assumption) ?_
        rotate_left
        · intro w hSw; have hc27 := Fin9.cnt hSw; go_simp; (try with_reducible rfl)
        try simp only [Act.put, List.getElem_toArray, List.getElem_cons_succ, List.getElem_cons_zero, List.setIfInBounds_toArray, List.set_cons_zero, List.set_cons_succ]
        refine wpAnyH_take (i := 3) (v := ?_) rfl (by kernel_rfl) (by kernel_rfl) (by kernel_rfl) (fun _ _ _ h => h) (Or.inl ⟨by kernel_rfl, ?_⟩) (by assumption) ?_
        rotate_left
        · intro w hSw; have hc27 := Fin9.cnt hSw; go_simp; (try with_reducible rfl)
        try simp only [Act.put, List.getElem_toArray, List.getElem_cons_succ, List.getElem_cons_zero, List.setIfInBounds_toArray, List.set_cons_zero, List.set_cons_succ]
        generalize World.drew W9 = W10 at hHeld ⊢
        obtain ⟨ht, hF, hZ⟩ := hHeld.put
        refine wpAnyH_ready (rs := [4]) (by kernel_rfl) (by simp) ?_
        refine AllReadyH.cons rfl (fun K hK => ?_) AllReadyH.nil
        rw [if_pos (by kernel_rfl)]
        refine wp_store_mid 106 _ _ rfl (w.heap.size + 1 + 1) 0 (scells E.mem S T) rfl rfl ht (by kernel_rfl) (scells_one HEm.out) ?_
        refine hK.out _ _ hF (fun hHeld => ?_)
        replace hF := Lib.hid hF
        replace hZ := Lib.hid hZ
        clear hK K ht hHeld
        try simp only [Act.put, List.getElem_toArray, List.getElem_cons_succ, List.getElem_cons_zero]
        generalize World.setCells W10 _ _ _ = W11 at hF hZ ⊢
        refine wpAnyH_ready (rs := [5]) (by kernel_rfl) (by simp) ?_
        refine AllReadyH.cons rfl (fun K hK => ?_) AllReadyH.nil
        go_simp
        refine hK.out _ _ hF.out (fun hHeld => ?_)
        clear hK K hHeld
        try simp only [Act.put, List.getElem_toArray, List.getElem_cons_succ, List.getElem_cons_zero, List.setIfInBounds_toArray, List.set_cons_zero, List.set_cons_succ]
        refine wpAnyH_done (by kernel_rfl) ?_ _
        go_wp2_with fail
        refine bodyPost_ret (results_row2 Tryd.results72 _ W11 (w.heap.size + 1 + 1) _ _ rfl hZ.out u22 rfl k22) rfl ?_
        unfold RunPost
        rw [HS.out]
        exact ⟨⟨_, E.mem, T, rfl, hT, HEm⟩, hF.out.bel⟩
end Go.Proofs.YthfdjfgmgoafnaaDoor
