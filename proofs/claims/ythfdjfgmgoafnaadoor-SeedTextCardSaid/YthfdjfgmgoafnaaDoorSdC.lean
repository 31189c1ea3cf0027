/- Layer 50: the document's machine: set, jump, a step; walked. -/
import Derived.BigQuiet
import Derived.BigRegion
import Derived.Deep.Light
import Derived.Test.YthfdjfgmgoafnaaDoorSdB
import Derived.Test.YthfdjfgmgoafnaaDoorRefC
namespace Go.Proofs.YthfdjfgmgoafnaaDoor
open Go.RowKit

theorem below_drewN (B : Nat) (w : World) (n : Nat) : Below B w (w.drewN n) := ⟨rfl, rfl, rfl, Nat.le_refl _, fun _ _ => rfl⟩
/-- Behind a call on the box: another state, nothing older turned. -/
def Went (E : Env) (o cap : Nat) (s : Ms) (w : World) (e : Ending) (w' : World) : Prop := e = .returned (.tuple #[]) ∧ Wk E o cap s w' ∧ Below E.B w w'
theorem work_set (E : Env) (o cap : Nat) (s : Ms) (a : Nat) (ha : a < 16) (x : UInt32) (w : World) (h : Wk E o cap s w) (hp : s.pc < 34) :
    Calls Tryd.prog 83 #[.pointer (some ⟨E.g, 0, none⟩), .int .i64 a, .int .u32 x.toNat] w (Went E o cap ⟨s.pc + 1, updR s.reg a x, s.rd, s.out, s.st, s.fin⟩ w) := by
  have h1 := h.setR a ha x
  have hf := h.bx.frozen (1 + a)
  have hr := h.reg a ha
  obtain ⟨⟨c0, _⟩, f0, _⟩ := h1.all
  have hend : Went E o cap ⟨s.pc + 1, updR s.reg a x, s.rd, s.out, s.st, s.fin⟩ w (.returned (.tuple #[])) ((w.setCell ⟨E.g, 1 + a, none⟩ (.int .u32 x.toNat)).setCell ⟨E.g, 0, none⟩ (.int .i64 ((s.pc : Int) + 1))) :=
    ⟨rfl, h1.setPC (s.pc + 1), ((Below.refl _ w).setCell (p := ⟨E.g, 1 + a, none⟩) h.ap.bg _).setCell (p := ⟨E.g, 0, none⟩) h.ap.bg _⟩
  have haI : (a : Int) < 16 := by omega
  have ha0 : (0 : Int) ≤ a := by omega
  have H := Lib.hid hend
  clear hend h1 h
  go_enter Tryd.func83, Tryd.ntmps83
  go_wp2_with fail
  go_end0
  exact H.out
theorem work_jump (E : Env) (o cap : Nat) (s : Ms) (b : Bool) (to : Nat) (w : World) (h : Wk E o cap s w) (hp : s.pc < 34) :
    Calls Tryd.prog 85 #[.pointer (some ⟨E.g, 0, none⟩), .bool b, .int .i64 to] w (Went E o cap ⟨if b = true then to else s.pc + 1, s.reg, s.rd, s.out, s.st, s.fin⟩ w) := by
  obtain ⟨⟨c0, _⟩, f0, _⟩ := h.all
  cases b with
  | true =>
    have hend : Went E o cap ⟨if true = true then to else s.pc + 1, s.reg, s.rd, s.out, s.st, s.fin⟩ w (.returned (.tuple #[])) (w.setCell ⟨E.g, 0, none⟩ (.int .i64 to)) :=
      ⟨rfl, h.setPC to, (Below.refl _ w).setCell (p := ⟨E.g, 0, none⟩) h.ap.bg _⟩
    have H := Lib.hid hend
    clear hend h
    go_enter Tryd.func85, Tryd.ntmps85
    go_wp2_with fail
    go_end0
    exact H.out
  | false =>
    have hend : Went E o cap ⟨if false = true then to else s.pc + 1, s.reg, s.rd, s.out, s.st, s.fin⟩ w (.returned (.tuple #[])) (w.setCell ⟨E.g, 0, none⟩ (.int .i64 ((s.pc : Int) + 1))) :=
      ⟨rfl, h.setPC (s.pc + 1), (Below.refl _ w).setCell (p := ⟨E.g, 0, none⟩) h.ap.bg _⟩
    have H := Lib.hid hend
    clear hend h
    go_enter Tryd.func85, Tryd.ntmps85
    go_wp2_with fail
    go_end0
    exact H.out

/-- The facts of a state that the head of a step reads. -/
theorem Wk.head {E : Env} {o cap pc rd st fin : Nat} {r : Nat → UInt32} {ou : List UInt8} {W : World} (h : Wk E o cap ⟨pc, r, rd, ou, st, fin⟩ W) (hp : pc < 34) {op a b c : Nat} (hq : seedP[pc]? = some (op, a, b, c)) :
    (W.cell? ⟨E.cb, pc * 4, none⟩ = some (.int .i64 op) ∧ W.cell? ⟨E.cb, pc * 4 + 1, none⟩ = some (.int .i64 a) ∧ W.cell? ⟨E.cb, pc * 4 + 2, none⟩ = some (.int .i64 b) ∧ W.cell? ⟨E.cb, pc * 4 + 3, none⟩ = some (.int .i64 c)) ∧
    W.cell? ⟨E.kb, pc, none⟩ = some (.bool true) ∧
    (W.cell? ⟨E.g, 0, none⟩ = some (.int .i64 pc) ∧ W.cell? ⟨E.g, 18, none⟩ = some (.int .i64 rd) ∧ W.cell? ⟨E.g, 20, none⟩ = some (.int .i64 st) ∧ W.cell? ⟨E.g, 21, none⟩ = some (.int .i64 fin) ∧ W.cell? ⟨E.g, 22, none⟩ = some (.slice (some ⟨o, 0, none⟩) ou.length cap) ∧ W.cell? ⟨E.g, 23, none⟩ = some (.slice (some ⟨E.cb, 0, none⟩) 34 34) ∧ W.cell? ⟨E.g, 24, none⟩ = some (.slice (some ⟨E.kb, 0, none⟩) 34 34) ∧ W.cell? ⟨E.g, 26, none⟩ = some (.string E.inp) ∧ W.cell? ⟨E.g, 27, none⟩ = some (.slice (some ⟨E.c, 0, none⟩) 34 34)) ∧
    (W.frozen? ⟨E.g, 0, none⟩ = false ∧ W.frozen? ⟨E.g, 18, none⟩ = false ∧ W.frozen? ⟨E.g, 20, none⟩ = false ∧ W.frozen? ⟨E.g, 21, none⟩ = false ∧ W.frozen? ⟨E.g, 22, none⟩ = false) :=
  ⟨h.code _ _ _ _ _ hq, h.ok _ hp, h.all.1, h.all.2⟩
theorem Wk.tick {E : Env} {o cap pc rd st fin : Nat} {r : Nat → UInt32} {ou : List UInt8} {w W1 : World} (h : Wk E o cap ⟨pc, r, rd, ou, st, fin⟩ W1) (hb : Below E.B w W1) (hp : pc < 34) :
    ∃ (m : Nat) (W2 : World), m ≤ st ∧ W1.setCell ⟨E.g, 20, none⟩ (.int .i64 ((st : Int) + 1)) = W2 ∧ Wk E o cap ⟨pc, r, rd, ou, st + 1, fin⟩ W2 ∧ Below E.B w W2 ∧ W2.cell? ⟨E.c, pc, none⟩ = some (.int .i64 m) ∧ W2.frozen? ⟨E.c, pc, none⟩ = false ∧
      W2.cell? ⟨E.g, 0, none⟩ = some (.int .i64 pc) ∧ W2.cell? ⟨E.g, 27, none⟩ = some (.slice (some ⟨E.c, 0, none⟩) 34 34) ∧
      Wk E o cap ⟨pc, r, rd, ou, st + 1, fin⟩ ((W2.setCell ⟨E.c, pc, none⟩ (.int .i64 ((m : Int) + 1))).drew) ∧ Below E.B w ((W2.setCell ⟨E.c, pc, none⟩ (.int .i64 ((m : Int) + 1))).drew) := by
  obtain ⟨m, m0, mf, mle⟩ := h.count hp
  have h2 := h.setSt (st + 1) (Nat.le_succ _)
  have mc : ∀ u, (W1.setCell ⟨E.g, 20, none⟩ u).heap[E.c]? = W1.heap[E.c]? := fun u => Below.heap_setCell W1 ⟨E.g, 20, none⟩ u _ h.ap.gc.symm
  have b2 := hb.setCell (p := ⟨E.g, 20, none⟩) h.ap.bg (.int .i64 ((st + 1 : Nat) : Int))
  refine ⟨m, _, mle, rfl, h2, b2, (cell_same (p := ⟨E.c, pc, none⟩) (mc _)).trans m0, ?_, h2.all.1.1, h2.all.1.2.2.2.2.2.2.2.2, ?_, ?_⟩
  · obtain ⟨arr, hB, _⟩ := h2.cnt.h
    exact hB.frozen _
  · have hm : m + 1 ≤ st + 1 := Nat.succ_le_succ mle
    exact (h2.putCnt (m := m + 1) hp hm).drew
  · exact (b2.setCell (p := ⟨E.c, pc, none⟩) h.ap.bc (.int .i64 ((m : Int) + 1))).drew

/-- The step, its head walked: the state and the instruction's box. -/
structure Ws (E : Env) (o cap : Nat) (s : Ms) (w : World) (I op a b c : Nat) (W : World) : Prop where
  wk : Wk E o cap s W
  be : Below E.B w W
  ib : Blk W I 49 #[.int .i64 (op : Int), .int .i64 (a : Int), .int .i64 (b : Int), .int .i64 (c : Int)]
  ig : E.g ≠ I
section
variable {E : Env} {o cap I op a b c pc rd st fin : Nat} {r : Nat → UInt32} {ou : List UInt8} {s s' : Ms} {w W W' : World}
theorem Ws.drewN (h : Ws E o cap s w I op a b c W) (n : Nat) : Ws E o cap s w I op a b c (W.drewN n) := ⟨h.wk.drewN n, h.be.trans (below_drewN _ _ n), h.ib, h.ig⟩
theorem Ws.drew (h : Ws E o cap s w I op a b c W) : Ws E o cap s w I op a b c W.drew := ⟨h.wk.drew, h.be.drew, h.ib, h.ig⟩
theorem Ws.below (hB : E.B ≤ W.heap.size) (h : Ws E o cap s w I op a b c W) (hb : Below W.heap.size W W') : Ws E o cap s w I op a b c W' := ⟨h.wk.below hb, h.be.trans (hb.mono hB), h.ib.below hb h.ib.lt, h.ig⟩
theorem Ws.le (h : Ws E o cap s w I op a b c W) : E.B ≤ W.heap.size := Nat.le_of_lt (Nat.lt_of_le_of_lt h.wk.ap.bg h.wk.bx.lt)
theorem Ws.ins (h : Ws E o cap s w I op a b c W) : W.cell? ⟨I, 0, none⟩ = some (.int .i64 op) ∧ W.cell? ⟨I, 1, none⟩ = some (.int .i64 a) ∧ W.cell? ⟨I, 2, none⟩ = some (.int .i64 b) ∧ W.cell? ⟨I, 3, none⟩ = some (.int .i64 c) :=
  ⟨h.ib.cell 0, h.ib.cell 1, h.ib.cell 2, h.ib.cell 3⟩
theorem Ws.put (h : Ws E o cap s w I op a b c W) (i : Nat) (u : Value) (hk : Wk E o cap s' (W.setCell ⟨E.g, i, none⟩ u)) : Ws E o cap s' w I op a b c (W.setCell ⟨E.g, i, none⟩ u) :=
  ⟨hk, h.be.setCell (p := ⟨E.g, i, none⟩) h.wk.ap.bg u, h.ib.far (p := ⟨E.g, i, none⟩) (fun e => h.ig e.symm) u, h.ig⟩
theorem Wk.ins (h : Wk E o cap s W) (hb : Below E.B w W) : Ws E o cap s w W.heap.size op a b c ((W.alloc (.cells #[.int .i64 op, .int .i64 a, .int .i64 b, .int .i64 c] 49)).drew) :=
  ⟨(h.alloc _).drew, (hb.alloc (Nat.le_of_lt (Nat.lt_of_le_of_lt h.ap.bg h.bx.lt)) _).drew, (Blk.new W _ _).drew, Nat.ne_of_lt h.bx.lt⟩
theorem Ws.held (hb : b < 16) (hc : c < 16) (h : Ws E o cap ⟨pc, r, rd, ou, st, fin⟩ w I op a b c W) : (W.cell? ⟨I, 0, none⟩ = some (.int .i64 op) ∧ W.cell? ⟨I, 2, none⟩ = some (.int .i64 b) ∧ W.cell? ⟨I, 3, none⟩ = some (.int .i64 c) ∧ W.cell? ⟨E.g, 1 + b, none⟩ = some (.int .u32 (r b).toNat) ∧ W.cell? ⟨E.g, 1 + c, none⟩ = some (.int .u32 (r c).toNat)) ∧ Ws E o cap ⟨pc, r, rd, ou, st, fin⟩ w I op a b c W :=
  ⟨⟨h.ins.1, h.ins.2.2.1, h.ins.2.2.2, h.wk.reg b hb, h.wk.reg c hc⟩, h⟩
theorem Ws.below' (h : Ws E o cap s w I op a b c W) (hb : Below W.heap.size W W') : Ws E o cap s w I op a b c W' := h.below h.le hb
/-- A byte put out. -/
theorem Wk.grown {X : Obj} {w' : World} {o' cap' : Nat} {x : UInt8} (h : Wk E o cap ⟨pc, r, rd, ou, st, fin⟩ W) (hG : Ro w' 5 o' cap' (ou.map bv ++ [bv x])) (hb : But o (W.alloc X) w') (ho : o' = o ∨ (W.alloc X).heap.size ≤ o') :
    w'.cell? ⟨E.g, 22, none⟩ = some (.slice (some ⟨o, 0, none⟩) ou.length cap) ∧ w'.frozen? ⟨E.g, 22, none⟩ = false ∧ w'.cell? ⟨E.g, 0, none⟩ = some (.int .i64 pc) ∧ w'.frozen? ⟨E.g, 0, none⟩ = false ∧ Wk E o' cap' ⟨pc, r, rd, ou ++ [x], st, fin⟩ (w'.setCell ⟨E.g, 22, none⟩ (.slice (some ⟨o', 0, none⟩) (ou.length + 1) cap')) ∧ Below E.B W (w'.setCell ⟨E.g, 22, none⟩ (.slice (some ⟨o', 0, none⟩) (ou.length + 1) cap')) := by
  have hsz : (W.alloc X).heap.size = W.heap.size + 1 := by simp
  have hcn : E.c < W.heap.size := by obtain ⟨_, hB, _⟩ := h.cnt.h; exact hB.lt
  have keep : ∀ k, k < W.heap.size → k ≠ o → w'.heap[k]? = W.heap[k]? := fun k hk hne => (hb.same k (by omega) hne).trans (Below.heap_alloc W X k hk)
  have hbx : Blk w' E.g 125 (wcells E ⟨pc, r, rd, ou, st, fin⟩ (.slice (some ⟨o, 0, none⟩) ou.length cap)) := (keep _ h.bx.lt h.ap.og.symm).trans h.bx
  have far := fun k (hk : k ≠ E.g) => Below.heap_setCell w' ⟨E.g, 22, none⟩ (.slice (some ⟨o', 0, none⟩) (ou.length + 1) cap') k hk
  have hsz2 : (w'.setCell ⟨E.g, 22, none⟩ (.slice (some ⟨o', 0, none⟩) (ou.length + 1) cap')).heap.size = w'.heap.size := by simp [World.setCell]
  have hle : W.heap.size < w'.heap.size := by have := hb.size; omega
  have ha := h.ap
  have h1 := h.bx.lt
  have h2 := h.lcb
  have h3 := h.lkb
  have ap' : Apart E o' := by
    rcases ho with rfl | ho
    · exact ha
    · exact ⟨ha.gc, ha.gcb, ha.gkb, ha.ccb, ha.ckb, by omega, by omega, by omega, by omega, ha.bg, ha.bc, by have := ha.bg; omega⟩
  refine ⟨hbx.cell 22, hbx.frozen 22, hbx.cell 0, hbx.frozen 0, ⟨?_, ?_, ?_, ?_, ?_, ap', ?_, ?_⟩, ?_⟩
  · have e := hbx.set 22 (.slice (some ⟨o', 0, none⟩) (ou.length + 1) cap')
    have el : (ou ++ [x]).length = ou.length + 1 := by simp
    show Blk _ _ _ (wcells E ⟨pc, r, rd, ou ++ [x], st, fin⟩ (.slice (some ⟨o', 0, none⟩) (ou ++ [x]).length cap'))
    rw [el]
    exact e
  · rw [List.map_append]
    exact hG.same (far _ ap'.og)
  · exact h.code.same ((far _ ha.gcb.symm).trans (keep _ h2 ha.ocb.symm))
  · exact h.ok.same ((far _ ha.gkb.symm).trans (keep _ h3 ha.okb.symm))
  · exact h.cnt.same ((far _ ha.gc.symm).trans (keep _ hcn ha.oc.symm))
  · rw [hsz2]; omega
  · rw [hsz2]; omega
  · exact (((Below.refl _ W).alloc (by have := ha.bg; omega) X).trans (hb.bel.mono ha.bo)).setCell (p := ⟨E.g, 22, none⟩) ha.bg _
end
theorem seedP_ok {k op a b c : Nat} (hk : k < 34) (h : seedP[k]? = some (op, a, b, c)) : a < 16 ∧ b < 16 ∧ c < 65536 ∧ (op = 1 ∨ op = 18 ∨ op = 19 ∨ op = 20 ∨ op = 23 ∨ op = 24 ∨ op = 26 ∨ (c < 16 ∧ (op = 4 ∨ op = 5 ∨ op = 10 ∨ op = 12 ∨ op = 14 ∨ op = 15))) := by
  have h1 := okI_all k hk
  unfold okI at h1
  rw [h] at h1
  simp only [Bool.and_eq_true, Bool.or_eq_true, decide_eq_true_eq] at h1
  omega
theorem applyW_ok {op : Nat} (h : op = 4 ∨ op = 5 ∨ op = 10 ∨ op = 12 ∨ op = 14 ∨ op = 15) (x y : UInt32) : (applyW op x y).2 = 0 := by
  rcases h with rfl | rfl | rfl | rfl | rfl | rfl <;> rfl
theorem stp_at {inp : List UInt8} {pc rd st op a b c : Nat} {r : Nat → UInt32} {ou : List UInt8} (h : seedP[pc]? = some (op, a, b, c)) : stp inp ⟨pc, r, rd, ou, st, 0⟩ = doI inp op a b c ⟨pc, r, rd, ou, st, 0⟩ := by
  unfold stp; rw [show (⟨pc, r, rd, ou, st, 0⟩ : Ms).pc = pc from rfl, h]
theorem Went.to {E : Env} {o cap : Nat} {s : Ms} {w W W' : World} {e : Ending} (h : Went E o cap s W e W') (hb : Below E.B w W) {P : Ms} (hs : P = s) : ∃ o' cap', Went E o' cap' P w e W' := by
  subst hs
  exact ⟨o, cap, h.1, h.2.1, hb.trans h.2.2⟩
theorem doI_get {inp : List UInt8} {a b c pc rd st : Nat} {r : Nat → UInt32} {ou : List UInt8} {x : UInt8} (h : inp[rd]? = some x) : doI inp 23 a b c ⟨pc, r, rd, ou, st, 0⟩ = ⟨pc + 1, updR r a (UInt32.ofNat x.toNat), rd + 1, ou, st + 1, 0⟩ := by
  show (match inp[rd]? with | none => _ | some x => _) = _
  rw [h]
theorem doI_eof {inp : List UInt8} {a b c pc rd st : Nat} {r : Nat → UInt32} {ou : List UInt8} (h : inp[rd]? = none) : doI inp 23 a b c ⟨pc, r, rd, ou, st, 0⟩ = ⟨pc + 1, updR r a 256, rd, ou, st + 1, 0⟩ := by
  show (match inp[rd]? with | none => _ | some x => _) = _
  rw [h]
theorem doI_op {inp : List UInt8} {op a b c pc rd st : Nat} {r : Nat → UInt32} {ou : List UInt8} (h : op = 4 ∨ op = 5 ∨ op = 10 ∨ op = 12 ∨ op = 14 ∨ op = 15) : doI inp op a b c ⟨pc, r, rd, ou, st, 0⟩ = ⟨pc + 1, updR r a (applyW op (r b) (r c)).1, rd, ou, st + 1, 0⟩ := by
  rcases h with rfl | rfl | rfl | rfl | rfl | rfl <;> rfl
theorem bv_mod (x : UInt32) : Value.int .u8 ((x.toNat : Int) % 256) = bv (UInt8.ofNat x.toNat) := by
  unfold bv
  rw [UInt8.toNat_ofNat']
  rfl
theorem drewN_same (w : World) (n : Nat) (p : Addr) : (w.drewN n).cell? p = w.cell? p := rfl

theorem work_set_n (E : Env) (o cap : Nat) (s : Ms) (a : Nat) (ha : a < 16) (x : Nat) (hx : x < 4294967296) (w : World) (h : Wk E o cap s w) (hp : s.pc < 34) :
    Calls Tryd.prog 83 #[.pointer (some ⟨E.g, 0, none⟩), .int .i64 a, .int .u32 x] w (Went E o cap ⟨s.pc + 1, updR s.reg a (UInt32.ofNat x), s.rd, s.out, s.st, s.fin⟩ w) := by
  have k := work_set E o cap s a ha (UInt32.ofNat x) w h hp
  rw [show (UInt32.ofNat x).toNat = x by rw [UInt32.toNat_ofNat']; omega] at k
  exact k

set_option maxRecDepth 100000 in
set_option maxHeartbeats 4000000 in
theorem work_step (E : Env) (o cap pc rd st : Nat) (r : Nat → UInt32) (ou : List UInt8) (w : World) (h : Wk E o cap ⟨pc, r, rd, ou, st, 0⟩ w) (hp : pc < 34) (hst : st ≤ 1000000) (hrd : rd ≤ E.inp.size) (hin : E.inp.size ≤ 1000000) (hout : ou.length < 65536) :
    Calls Tryd.prog 79 #[.pointer (some ⟨E.g, 0, none⟩)] w fun e w' => ∃ o' cap', Went E o' cap' (stp E.inp.data.toList ⟨pc, r, rd, ou, st, 0⟩) w e w' := by
  obtain ⟨⟨op, a, b, c⟩, hq⟩ := seedP_pcs pc hp
  obtain ⟨ha, hbb, hc, hop⟩ := seedP_ok hp hq
  rw [stp_at hq]
  obtain ⟨⟨q0, q1, q2, q3⟩, k0, ⟨c0, c18, c20, c21, c22, c23, c24, c26, c27⟩, f0, f18, f20, f21, f22⟩ := h.head hp hq
  have HQ := Lib.hid hq
  have HOP := Lib.hid hop
  have H := Lib.hid h
  obtain ⟨S, hS⟩ : ∃ S, doI E.inp.data.toList op a b c ⟨pc, r, rd, ou, st, 0⟩ = S := ⟨_, rfl⟩
  rw [hS]
  have HS := Lib.hid hS
  have hpI : (pc : Int) < 34 := by omega
  have hp0 : (0 : Int) ≤ pc := by omega
  have hd1 : decide ((pc : Int) < 0) = false := by simp
  have hd2 : decide ((34 : Int) ≤ pc) = false := by simp; omega
  clear h hq hop hS
  go_enter Tryd.func79, Tryd.ntmps79
  go_wp2_with fail
  go_quiet (fail)
  rename_i nq
  have h1 := H.out.drewN nq
  have b1 := below_drewN E.B w nq
  generalize w.drewN nq = W1 at h1 b1 ⊢
  clear q0 q1 q2 q3 k0 c0 c18 c20 c21 c22 c23 c24 c26 c27 f0 f18 f20 f21 f22 hd1 hd2
  obtain ⟨⟨q0, q1, q2, q3⟩, k0, ⟨c0, c18, c20, c21, c22, c23, c24, c26, c27⟩, f0, f18, f20, f21, f22⟩ := h1.head hp HQ.out
  have H1 := Lib.hid h1
  have B1 := Lib.hid b1
  clear h1 b1
  go_wp2_with fail
  clear q0 q1 q2 q3 k0 c0 c18 c20 c21 c22 c23 c24 c26 c27 f0 f18 f20 f21 f22
  obtain ⟨m, W2, mle, eW, h2, b2, m0, mf, c0, c27, h3, b3⟩ := H1.out.tick B1.out hp
  rw [eW]
  have H3 := Lib.hid h3
  have B3 := Lib.hid b3
  clear eW h2 b2 h3 b3 H1 B1 H
  go_region
  have h3 := H3.out
  have b3 := B3.out
  generalize World.drew _ = W3 at h3 b3 ⊢
  clear m0 mf c0 c27 H3 B3 mle
  obtain ⟨⟨q0, q1, q2, q3⟩, k0, ⟨c0, c18, c20, c21, c22, c23, c24, c26, c27⟩, f0, f18, f20, f21, f22⟩ := h3.head hp HQ.out
  have H3 := Lib.hid h3
  have B3 := Lib.hid b3
  clear h3 b3
  go_wp2_with fail
  obtain ⟨⟨q0', q1', q2', q3'⟩, -, ⟨c0', -, -, -, -, c23', -⟩, -⟩ := (H3.out.alloc (.cells #[.int .i64 0, .int .i64 0, .int .i64 0, .int .i64 0] 49)).head hp HQ.out
  go_region
  have h4 : Ws E o cap ⟨pc, r, rd, ou, st + 1, 0⟩ w W3.heap.size op a b c _ := H3.out.ins B3.out
  generalize World.drew _ = W4 at h4 ⊢
  generalize W3.heap.size = I at h4 ⊢
  clear q0 q1 q2 q3 k0 c0 c18 c20 c21 c22 c23 c24 c26 c27 f0 f18 f20 f21 f22 q0' q1' q2' q3' c0' c23' H3 B3
  obtain ⟨-, k0, ⟨c0, c18, c20, c21, c22, c23, c24, c26, c27⟩, f0, f18, f20, f21, f22⟩ := h4.wk.head hp HQ.out
  obtain ⟨i0, i1, i2, i3⟩ := h4.ins
  have ra := h4.wk.reg a ha
  have haI : (a : Int) < 16 := by omega
  have ha0 : (0 : Int) ≤ a := by omega
  have H4 := Lib.hid h4
  clear h4
  go_wp2_with fail
  go_quiet (fail)
  generalize hW : W4.drewN _ = W5
  have h5 : Ws E o cap ⟨pc, r, rd, ou, st + 1, 0⟩ w I op a b c W5 := hW ▸ H4.out.drewN _
  clear hW
  clear ra H4
  clear k0 c0 c18 c20 c21 c22 c23 c24 c26 c27 f0 f18 f20 f21 f22 i0 i1 i2 i3
  obtain ⟨-, k0, ⟨c0, c18, c20, c21, c22, c23, c24, c26, c27⟩, f0, f18, f20, f21, f22⟩ := h5.wk.head hp HQ.out
  obtain ⟨i0, i1, i2, i3⟩ := h5.ins
  have ra := h5.wk.reg a ha
  have H5 := Lib.hid h5
  clear h5
  go_wp2_with fail
  go_quiet (fail)
  generalize hW : W5.drewN _ = W6
  have h6 : Ws E o cap ⟨pc, r, rd, ou, st + 1, 0⟩ w I op a b c W6 := hW ▸ H5.out.drewN _
  clear hW
  clear ra H5
  clear k0 c0 c18 c20 c21 c22 c23 c24 c26 c27 f0 f18 f20 f21 f22 i0 i1 i2 i3
  obtain ⟨-, k0, ⟨c0, c18, c20, c21, c22, c23, c24, c26, c27⟩, f0, f18, f20, f21, f22⟩ := h6.wk.head hp HQ.out
  obtain ⟨i0, i1, i2, i3⟩ := h6.ins
  have ra := h6.wk.reg a ha
  have hr := (r a).toNat_lt
  have H6 := Lib.hid h6
  clear h6
  rcases HOP.out with rfl | rfl | rfl | rfl | rfl | rfl | rfl | ⟨hc16, hop⟩
  · go_wp2_with fail
    refine (work_set_n E o cap _ a ha c (by omega) _ H6.out.wk hp).mono ?_
    rintro e w7 h7
    obtain ⟨rfl, h7, b7⟩ := h7
    go_wp2_with fail
    go_end0
    rw [← HS.out]
    exact ⟨o, cap, rfl, h7, H6.out.be.trans b7⟩
  · go_wp2_with fail
    go_end0
    rw [← HS.out]
    exact ⟨o, cap, rfl, H6.out.wk.setPC c, H6.out.be.setCell (p := ⟨E.g, 0, none⟩) H6.out.wk.ap.bg _⟩
  · by_cases hz : r a = 0
    · have hz1 : (((r a).toNat : Int) == 0) = true := by rw [hz]; rfl
      have HZ := Lib.hid hz
      clear hz
      go_wp2_with fail
      refine (work_jump E o cap _ true c _ H6.out.wk hp).mono ?_
      rintro e w7 h7
      obtain ⟨rfl, h7, b7⟩ := h7
      go_wp2_with fail
      go_end0
      rw [← HS.out]
      refine ⟨o, cap, rfl, ?_, H6.out.be.trans b7⟩
      rw [show doI E.inp.data.toList 19 a b c ⟨pc, r, rd, ou, st, 0⟩ = ⟨if r a = 0 then c else pc + 1, r, rd, ou, st + 1, 0⟩ from rfl, if_pos HZ.out]
      exact h7
    · have hz1 : (((r a).toNat : Int) == 0) = false := by rw [beq_eq_false_iff_ne]; intro e; exact hz (UInt32.toNat_inj.1 (by show (r a).toNat = 0; omega))
      have HZ := Lib.hid hz
      clear hz
      go_wp2_with fail
      refine (work_jump E o cap _ false c _ H6.out.wk hp).mono ?_
      rintro e w7 h7
      obtain ⟨rfl, h7, b7⟩ := h7
      go_wp2_with fail
      go_end0
      rw [← HS.out]
      refine ⟨o, cap, rfl, ?_, H6.out.be.trans b7⟩
      rw [show doI E.inp.data.toList 19 a b c ⟨pc, r, rd, ou, st, 0⟩ = ⟨if r a = 0 then c else pc + 1, r, rd, ou, st + 1, 0⟩ from rfl, if_neg HZ.out]
      exact h7
  · by_cases hz : r a = 0
    · have hz1 : (((r a).toNat : Int) != 0) = false := by rw [hz]; rfl
      have HZ := Lib.hid hz
      clear hz
      go_wp2_with fail
      refine (work_jump E o cap _ false c _ H6.out.wk hp).mono ?_
      rintro e w7 h7
      obtain ⟨rfl, h7, b7⟩ := h7
      go_wp2_with fail
      go_end0
      rw [← HS.out]
      refine ⟨o, cap, rfl, ?_, H6.out.be.trans b7⟩
      rw [show doI E.inp.data.toList 20 a b c ⟨pc, r, rd, ou, st, 0⟩ = ⟨if r a = 0 then pc + 1 else c, r, rd, ou, st + 1, 0⟩ from rfl, if_pos HZ.out]
      exact h7
    · have hz1 : (((r a).toNat : Int) != 0) = true := by rw [bne_iff_ne]; intro e; exact hz (UInt32.toNat_inj.1 (by show (r a).toNat = 0; omega))
      have HZ := Lib.hid hz
      clear hz
      go_wp2_with fail
      refine (work_jump E o cap _ true c _ H6.out.wk hp).mono ?_
      rintro e w7 h7
      obtain ⟨rfl, h7, b7⟩ := h7
      go_wp2_with fail
      go_end0
      rw [← HS.out]
      refine ⟨o, cap, rfl, ?_, H6.out.be.trans b7⟩
      rw [show doI E.inp.data.toList 20 a b c ⟨pc, r, rd, ou, st, 0⟩ = ⟨if r a = 0 then pc + 1 else c, r, rd, ou, st + 1, 0⟩ from rfl, if_neg HZ.out]
      exact h7
  · have hn1 : decide ((rd : Int) < 0) = false := by simp
    by_cases hlt : rd < E.inp.size
    · have hn2 : decide ((E.inp.size : Int) ≤ rd) = false := by simp; omega
      have hrI : (rd : Int) < E.inp.size := by omega
      have hr0 : (0 : Int) ≤ rd := by omega
      obtain ⟨x, hx⟩ : ∃ x, E.inp[rd] = x := ⟨_, rfl⟩
      have HX : Hid (E.inp.data.toList[rd]? = some x) := by
        unfold Hid
        rw [List.getElem?_eq_getElem (show rd < E.inp.data.toList.length from hlt)]
        exact congrArg some hx
      go_wp2_with fail
      go_quiet (fail)
      generalize hW : W6.drewN _ = W7
      have h7 : Ws E o cap ⟨pc, r, rd, ou, st + 1, 0⟩ w I 23 a b c W7 := hW ▸ H6.out.drewN _
      clear hW ra H6
      clear k0 c0 c18 c20 c21 c22 c23 c24 c26 c27 f0 f18 f20 f21 f22 i0 i1 i2 i3
      obtain ⟨-, k0, ⟨c0, c18, c20, c21, c22, c23, c24, c26, c27⟩, f0, f18, f20, f21, f22⟩ := h7.wk.head hp HQ.out
      obtain ⟨i0, i1, i2, i3⟩ := h7.ins
      have H7 := Lib.hid h7
      clear h7
      go_wp2_with fail
      go_quiet (fail)
      generalize hW : W7.drewN _ = W8
      have h8 : Ws E o cap ⟨pc, r, rd, ou, st + 1, 0⟩ w I 23 a b c W8 := hW ▸ H7.out.drewN _
      clear hW H7
      clear k0 c0 c18 c20 c21 c22 c23 c24 c26 c27 f0 f18 f20 f21 f22 i0 i1 i2 i3
      obtain ⟨-, k0, ⟨c0, c18, c20, c21, c22, c23, c24, c26, c27⟩, f0, f18, f20, f21, f22⟩ := h8.wk.head hp HQ.out
      obtain ⟨i0, i1, i2, i3⟩ := h8.ins
      have H8 := Lib.hid h8
      clear h8 hx
      go_wp2_with fail
      refine (work_set_n E o cap ⟨pc, r, rd + 1, ou, st + 1, 0⟩ a ha x.toNat (by have := x.toNat_lt; omega) _ (H8.out.wk.setRd (rd + 1)) hp).mono ?_
      rintro e w9 h9
      obtain ⟨rfl, h9, b9⟩ := h9
      go_wp2_with fail
      go_end0
      rw [← HS.out]
      refine ⟨o, cap, rfl, ?_, (H8.out.be.setCell (p := ⟨E.g, 18, none⟩) H8.out.wk.ap.bg _).trans b9⟩
      rw [doI_get HX.out]
      exact h9
    · have hn2 : decide ((E.inp.size : Int) ≤ rd) = true := by simp; omega
      have HX : Hid (E.inp.data.toList[rd]? = none) := List.getElem?_eq_none (show E.inp.data.toList.length ≤ rd from by show E.inp.size ≤ rd; omega)
      go_wp2_with fail
      go_quiet (fail)
      generalize hW : W6.drewN _ = W7
      have h7 : Ws E o cap ⟨pc, r, rd, ou, st + 1, 0⟩ w I 23 a b c W7 := hW ▸ H6.out.drewN _
      clear hW ra H6
      clear k0 c0 c18 c20 c21 c22 c23 c24 c26 c27 f0 f18 f20 f21 f22 i0 i1 i2 i3
      obtain ⟨-, k0, ⟨c0, c18, c20, c21, c22, c23, c24, c26, c27⟩, f0, f18, f20, f21, f22⟩ := h7.wk.head hp HQ.out
      obtain ⟨i0, i1, i2, i3⟩ := h7.ins
      have H7 := Lib.hid h7
      clear h7
      go_wp2_with fail
      refine (work_set_n E o cap _ a ha 256 (by decide) _ H7.out.wk hp).mono ?_
      rintro e w9 h9
      obtain ⟨rfl, h9, b9⟩ := h9
      go_wp2_with fail
      refine bodyPost_ret (by simp [results, Tryd.results79, go_sem]; try rfl) rfl ?_
      rw [← HS.out]
      refine ⟨o, cap, rfl, ?_, H7.out.be.trans b9⟩
      rw [doI_eof HX.out]
      exact h9
  · have ho1 : decide ((65536 : Int) ≤ ou.length) = false := by simp; omega
    have HB := Lib.hid (bv_mod (r a))
    go_wp2_with ((at_builtin; refine wpList_append_ro rfl _ _ 38 rfl 5 (.int .u8 0) 1 Tryd.underlying38 info_u8 rfl o cap (ou.map bv) (by rw [List.length_map]; rfl) (H6.out.wk.out.same (Below.heap_alloc W6 _ o H6.out.wk.out.lt)) _ 1 _ [.int .u8 (((r a).toNat : Int) % 256)] rfl rfl (lit_cells _ _ #[.int .u8 (((r a).toNat : Int) % 256)]) (by simp [Value.oneCell']) (by decide) (by rw [List.length_map]; omega) (by rw [List.length_map]; omega) ?_; intro o' cap' w7 hG hbut ho; rw [HB.out] at hG; obtain ⟨g22, f7, g7, e7, h7, b7⟩ := H6.out.wk.grown hG hbut ho; have H7 := Lib.hid h7; have B7 := Lib.hid b7; clear h7 b7; clear hG hbut ho; rw [List.length_map]))
    go_end0
    rw [← HS.out]
    exact ⟨o', cap', rfl, H7.out.setPC (pc + 1), (H6.out.be.trans B7.out).setCell (p := ⟨E.g, 0, none⟩) H6.out.wk.ap.bg _⟩
  · go_wp2_with fail
    go_end0
    rw [← HS.out]
    exact ⟨o, cap, rfl, H6.out.wk.setFin 1, H6.out.be.setCell (p := ⟨E.g, 21, none⟩) H6.out.wk.ap.bg _⟩
  · have HO := Lib.hid hop
    have rb := H6.out.wk.reg b hbb
    have rc := H6.out.wk.reg c hc16
    have hbI : (b : Int) < 16 := by omega
    have hb0 : (0 : Int) ≤ b := by omega
    have hcI : (c : Int) < 16 := by omega
    have hc0 : (0 : Int) ≤ c := by omega
    obtain ⟨Y, hY⟩ : ∃ Y, (applyW op (r b) (r c)).1 = Y := ⟨_, rfl⟩
    have K : Hid (∀ W : World, Calls Tryd.prog 86 #[.int .i64 op, .int .u32 (r b).toNat, .int .u32 (r c).toNat] W fun e w' => e = .returned (.tuple #[.int .u32 Y.toNat, .int .i64 0]) ∧ Below W.heap.size W w') := by
      intro W
      have k := ref_Apply op (r b) (r c) W
      rw [hY, applyW_ok hop] at k
      exact k
    have HD : Hid (doI E.inp.data.toList op a b c ⟨pc, r, rd, ou, st, 0⟩ = ⟨pc + 1, updR r a Y, rd, ou, st + 1, 0⟩) := by
      unfold Hid
      rw [doI_op hop, hY]
    have hq1 : ((op : Int) == 1) = false ∧ ((op : Int) == 2) = false ∧ ((op : Int) == 3) = false ∧ ((op : Int) == 16) = false ∧ ((op : Int) == 27) = false ∧ ((op : Int) == 17) = false ∧ ((op : Int) == 18) = false ∧ ((op : Int) == 19) = false ∧ ((op : Int) == 20) = false ∧ ((op : Int) == 21) = false ∧ ((op : Int) == 22) = false ∧ ((op : Int) == 23) = false ∧ ((op : Int) == 24) = false ∧ ((op : Int) == 25) = false ∧ ((op : Int) == 26) = false := by
      rcases hop with rfl | rfl | rfl | rfl | rfl | rfl <;> decide
    obtain ⟨s1, s2, s3, s16, s27, s17, s18, s19, s20, s21, s22, s23, s24, s25, s26⟩ := hq1
    have h6 := H6.out
    clear hop ra hY H6
    go_wp2_with fail
    clear s1 s2 s3 s16 s27 s17 s18 s19 s20 s21 s22 s23 s24 s25 s26 k0 c0 c18 c20 c21 c22 c23 c24 c26 c27 f0 f18 f20 f21 f22 i1
    go_region_held3 (fun W => (W.cell? ⟨I, 0, none⟩ = some (.int .i64 op) ∧ W.cell? ⟨I, 2, none⟩ = some (.int .i64 b) ∧ W.cell? ⟨I, 3, none⟩ = some (.int .i64 c) ∧ W.cell? ⟨E.g, 1 + b, none⟩ = some (.int .u32 (r b).toNat) ∧ W.cell? ⟨E.g, 1 + c, none⟩ = some (.int .u32 (r c).toNat)) ∧ Ws E o cap ⟨pc, r, rd, ou, st + 1, 0⟩ w I op a b c W) ((refine Ws.held hbb hc16 ?_; repeat (first | assumption | (refine Ws.drew ?_))))
      ((first
        | (go_at_call 86; go_split_ands; (with_reducible refine (K.out _).mono ?_); rintro e w9 ⟨rfl, hb9⟩; have I9 := Ws.below' (E := E) (o := o) (cap := cap) (s := ⟨pc, r, rd, ou, st + 1, 0⟩) (w := w) (I := I) (op := op) (a := a) (b := b) (c := c) (by assumption) hb9)))
    have H9 := Lib.hid I9
    obtain ⟨-, i1, -, -⟩ := I9.ins
    clear I9 h6 rb rc hb9
    go_split_ands
    go_wp2_with fail
    refine (work_set E o cap _ a ha Y _ H9.out.wk hp).mono ?_
    rintro e w7 h7
    obtain ⟨rfl, h7, b7⟩ := h7
    go_wp2_with fail
    go_end0
    rw [← HS.out, HD.out]
    exact ⟨o, cap, rfl, h7, H9.out.be.trans b7⟩
end Go.Proofs.YthfdjfgmgoafnaaDoor
