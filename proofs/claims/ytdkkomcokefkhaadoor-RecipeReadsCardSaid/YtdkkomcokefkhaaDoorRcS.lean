/- Layer 37: a recipe read; the document's answer, what is read; walked. -/
import Derived.BigRegion
import Derived.IntWalk
import Derived.Test.YtdkkomcokefkhaaDoorRcV
namespace Go.Proofs.YtdkkomcokefkhaaDoor
open Go.RowKit

/-- The cells of the recipe that is read. -/
def rcl (l : List UInt32) (v1 v2 : Value) : Array Value := #[.int .i64 (lg l 0).toNat, .int .u32 (imW l 0).toNat, .int .u32 (imW l 1).toNat, .int .u32 (imW l 2).toNat, .int .u32 (imW l 3).toNat, v1, v2, .int .i64 (lg l 5).toNat]
def zrc : Array Value := #[.int .i64 0, .int .u32 0, .int .u32 0, .int .u32 0, .int .u32 0, .slice none 0 0, .slice none 0 0, .int .i64 0]
/-- Ahead of the recipe's box: the result's box, the words. -/
structure Hq (w : World) (l : List UInt32) (b off : Nat) (W : World) : Prop where
  z : Blk W w.heap.size 28 zrc
  sl : ∀ k, k < l.length → W.cell? ⟨b, off + k, none⟩ = some (.int .u32 (lg l k).toNat)
  lb : b < W.heap.size
  bel : Below w.heap.size w W
section
variable {w W W' : World} {l : List UInt32} {b off R : Nat} {cs : Array Value}
theorem Hq.below (h : Hq w l b off W) (hb : Below W.heap.size W W') : Hq w l b off W' :=
  ⟨h.z.below hb h.z.lt, fun k hk => (hb.cell (p := ⟨b, off + k, none⟩) h.lb).trans (h.sl k hk), Nat.lt_of_lt_of_le h.lb hb.size, h.bel.trans (hb.mono h.bel.size)⟩
theorem Hq.drew (h : Hq w l b off W) : Hq w l b off W.drew := h.below (Below.refl _ W).drew
theorem Hq.alloc (h : Hq w l b off W) (x : Obj) : Hq w l b off (W.alloc x) := h.below ((Below.refl _ W).alloc (Nat.le_refl _) x)
theorem Hq.held (hl : 8 ≤ l.length) (h : Hq w l b off W) : (W.cell? ⟨b, off, none⟩ = some (.int .u32 (lg l 0).toNat) ∧ W.cell? ⟨b, off + 1, none⟩ = some (.int .u32 (lg l 1).toNat) ∧ W.cell? ⟨b, off + 2, none⟩ = some (.int .u32 (lg l 2).toNat) ∧ W.cell? ⟨b, off + 3, none⟩ = some (.int .u32 (lg l 3).toNat) ∧ W.cell? ⟨b, off + 4, none⟩ = some (.int .u32 (lg l 4).toNat) ∧ W.cell? ⟨b, off + 5, none⟩ = some (.int .u32 (lg l 5).toNat)) ∧ Hq w l b off W :=
  ⟨⟨h.sl 0 (by omega), h.sl 1 (by omega), h.sl 2 (by omega), h.sl 3 (by omega), h.sl 4 (by omega), h.sl 5 (by omega)⟩, h⟩
/-- With the recipe's box. -/
structure Rq (w : World) (l : List UInt32) (b off R : Nat) (cs : Array Value) (W : World) : Prop where
  h : Hq w l b off W
  bx : Blk W R 28 cs
  lt : w.heap.size < R
  bR : b < R
theorem Rq.below (h : Rq w l b off R cs W) (hb : Below W.heap.size W W') : Rq w l b off R cs W' := ⟨h.h.below hb, h.bx.below hb h.bx.lt, h.lt, h.bR⟩
theorem Rq.drew (h : Rq w l b off R cs W) : Rq w l b off R cs W.drew := h.below (Below.refl _ W).drew
theorem Rq.alloc (h : Rq w l b off R cs W) (x : Obj) : Rq w l b off R cs (W.alloc x) := h.below ((Below.refl _ W).alloc (Nat.le_refl _) x)
/-- What is written lies behind the box. -/
theorem Rq.above (h : Rq w l b off R cs W) (hb : Below (R + 1) W W') : Rq w l b off R cs W' :=
  have h1 := h.lt
  have h2 := h.bR
  ⟨⟨h.h.z.below hb (by omega), fun k hk => (hb.cell (p := ⟨b, off + k, none⟩) (by show b < R + 1; omega)).trans (h.h.sl k hk), Nat.lt_of_lt_of_le h.h.lb hb.size, h.h.bel.trans (hb.mono (by omega))⟩, h.bx.below hb (Nat.lt_succ_self _), h.lt, h.bR⟩
theorem Rq.set (h : Rq w l b off R cs W) (i : Nat) (v : Value) : Rq w l b off R (cs.setIfInBounds i v) (W.setCell ⟨R, i, none⟩ v) :=
  have h1 := h.lt
  have h2 := h.bR
  have hb : Below R W (W.setCell ⟨R, i, none⟩ v) := (Below.refl _ W).setCell (p := ⟨R, i, none⟩) (Nat.le_refl _) v
  ⟨⟨h.h.z.below hb h1, fun k hk => (hb.cell (p := ⟨b, off + k, none⟩) h2).trans (h.h.sl k hk), Nat.lt_of_lt_of_le h.h.lb hb.size, h.h.bel.trans (hb.mono (Nat.le_of_lt h1))⟩, h.bx.set i v, h.lt, h.bR⟩
theorem Rq.word (h : Rq w l b off R cs W) (k : Nat) (hk : k < l.length) : W.cell? ⟨b, off + k, none⟩ = some (.int .u32 (lg l k).toNat) := h.h.sl k hk
theorem Rq.zblk (h : Rq w l b off R cs W) : Blk W w.heap.size 28 #[.int .i64 0, .int .u32 0, .int .u32 0, .int .u32 0, .int .u32 0, .slice none 0 0, .slice none 0 0, .int .i64 0] := h.h.z
end
theorem small_snoc {l : List UInt32} {k X : Nat} (h : ∀ i, i < k → (lg l (7 + i)).toNat ≤ 4) (hX : (lg l (7 + k)).toNat = X) (h4 : X ≤ 4) : ∀ i, i < k + 1 → (lg l (7 + i)).toNat ≤ 4 := by
  intro i hi
  by_cases e : i = k
  · subst e; omega
  · exact h i (by omega)
theorem not_bad {l : List UInt32} (h : ¬ headBad l) : 8 ≤ l.length ∧ (lg l 0).toNat ≤ 6 ∧ (lg l 5).toNat ≤ 100000000 ∧ (lg l 6).toNat ≤ 20 ∧ 8 + (lg l 6).toNat ≤ l.length := by
  unfold headBad at h
  omega

set_option maxRecDepth 100000 in
set_option maxHeartbeats 8000000 in
theorem refR_Read_good (s : ByteArray) (l : List UInt32) (w : World) (hd : Hd s) (h4 : (s.size - 1) % 4 = 0) (hl : wordsL (s.data.toList.drop 1) = l) (hb : ¬ headBad l) :
    Calls Tryd.prog 17 #[.string s] w (ReadPost l w) := by
  obtain ⟨h8, g0, g5, g6, g7⟩ := not_bad hb
  obtain ⟨h1, h2, x, h0, hx, hne⟩ := hd
  have hlt : ¬ (s.size : Int) < 1 := by omega
  have hgt : ¬ (2000 : Int) < s.size := by omega
  have hlt1 : (1 : Int) ≤ s.size := by omega
  have hes : (s.extract 1 s.size).size = s.size - 1 := by rw [ByteArray.size_extract]; omega
  have hel : (s.extract 1 s.size).data.toList = s.data.toList.drop 1 := by
    rw [Lib.extract_data]
    exact List.take_of_length_le (by rw [List.length_drop]; show s.size - 1 ≤ _; omega)
  have K : Hid (∀ W : World, Calls Tryd.prog 32 #[.string (s.extract 1 s.size)] W fun e w' => (∃ v, e = .returned (.tuple #[v, .int .i64 0]) ∧ w'.ownsRow W.heap.size 22 1 v l.length (l.map wv)) ∧ Below W.heap.size W w') := by
    intro W
    have k := ref_Words (s.extract 1 s.size) W (by omega) (by omega)
    rw [hel, hl] at k
    exact k
  have hln : l.length ≤ 500 := by
    have e := wordsL_length (s.data.toList.drop 1) ((s.size - 1) / 4) (by rw [List.length_drop]; show s.size - 1 = _; omega)
    rw [hl] at e
    omega
  have hnI : ¬ (l.length : Int) < 8 := by omega
  have g0I : ¬ (6 : Int) < (lg l 0).toNat := by omega
  have g5I : ¬ (100000000 : Int) < (lg l 5).toNat := by omega
  have g6I : ¬ (20 : Int) < (lg l 6).toNat := by omega
  have g7I : ¬ (l.length : Int) < 8 + (lg l 6).toNat := by omega
  have l0 : 0 < l.length := by omega
  have l1 : 1 < l.length := by omega
  have l2 : 2 < l.length := by omega
  have l3 : 3 < l.length := by omega
  have l4 : 4 < l.length := by omega
  have l5 : 5 < l.length := by omega
  have l6 : 6 < l.length := by omega
  have i1 : (1 : Int) < l.length := by omega
  have i2 : (2 : Int) < l.length := by omega
  have i3 : (3 : Int) < l.length := by omega
  have i4 : (4 : Int) < l.length := by omega
  have i5 : (5 : Int) < l.length := by omega
  have i6 : (6 : Int) < l.length := by omega
  have r0 : IntKind.i64.wrap ((lg l 0).toNat : Int) = (lg l 0).toNat := IntWalk.i64_in _ (by omega)
  have r5 : IntKind.i64.wrap ((lg l 5).toNat : Int) = (lg l 5).toNat := IntWalk.i64_in _ (by omega)
  have r6 : IntKind.i64.wrap ((lg l 6).toNat : Int) = (lg l 6).toNat := IntWalk.i64_in _ (by omega)
  clear hes hel hl hb
  go_enter Tryd.func17, Tryd.ntmps17
  go_wp2_with fail
  refine (K.out _).mono ?_
  rintro e w1 ⟨⟨v, rfl, hown⟩, hb1⟩
  obtain ⟨A, c, rfl, -, -, hS⟩ := Sl.of_own hown
  obtain ⟨b, off, rfl, hbl, -⟩ := hS.word (k := 0) (by omega)
  have hq : Hq w l b off w1 := by
    refine ⟨(Blk.new w 28 zrc).below hb1 (by simp), fun k hk => ?_, hbl, ((Below.refl _ w).alloc (Nat.le_refl _) (.cells zrc 28)).trans (hb1.mono (by simp))⟩
    obtain ⟨b', off', e, _, hc⟩ := hS.word (k := k) hk
    injection e with e
    injection e with e e'
    subst e e'
    rw [lg_get hk]
    exact hc
  clear hS hown hb1 K hbl
  have c0 := hq.sl 0 l0
  rw [Nat.add_zero] at c0
  have c5 := hq.sl 5 l5
  have c6 := hq.sl 6 l6
  go_wp2_with fail
  clear c0 c5 c6
  refine wp_region_held_drew (S := (fun W => Hq w l b off W)) (by kernel_rfl) hq.drew (fun hHeld => ?_)
  clear hq
  generalize World.drew w1 = W0 at hHeld ⊢
  refine wpAnyH_take (i := 0) (v := ?_) rfl (by kernel_rfl) (by kernel_rfl) (by kernel_rfl) (fun _ _ _ h => h) (Or.inl ⟨by kernel_rfl, ?_⟩) (by assumption) ?_
  rotate_left
  · intro w hSw; go_simp; (try with_reducible rfl)
  try simp only [Act.put, List.getElem_toArray, List.getElem_cons_zero, List.setIfInBounds_toArray, List.set_cons_zero, List.set_cons_succ]
  refine wpAnyH_take (i := 1) (v := ?_) rfl (by kernel_rfl) (by kernel_rfl) (by kernel_rfl) (fun _ _ _ h => h) (Or.inl ⟨by kernel_rfl, ?_⟩) (by assumption) ?_
  rotate_left
  · intro w hSw; go_simp; (try with_reducible rfl)
  try simp only [Act.put, List.getElem_toArray, List.getElem_cons_succ, List.getElem_cons_zero, List.setIfInBounds_toArray, List.set_cons_zero, List.set_cons_succ]
  refine wpAnyH_take (i := 2) (v := ?_) rfl (by kernel_rfl) (by kernel_rfl) (by kernel_rfl) (fun _ _ _ h => h) (Or.inl ⟨by kernel_rfl, ?_⟩) (by assumption) ?_
  rotate_left
  · intro w hSw; have c := (Hq.held h8 hSw).1.1; go_simp; (try with_reducible rfl)
  try simp only [Act.put, List.getElem_toArray, List.getElem_cons_succ, List.getElem_cons_zero, List.setIfInBounds_toArray, List.set_cons_zero, List.set_cons_succ]
  refine wpAnyH_take (i := 3) (v := ?_) rfl (by kernel_rfl) (by kernel_rfl) (by kernel_rfl) (fun _ _ _ h => h) (Or.inl ⟨by kernel_rfl, ?_⟩) (by assumption) ?_
  rotate_left
  · intro w hSw; go_simp; (try with_reducible rfl)
  try simp only [Act.put, List.getElem_toArray, List.getElem_cons_succ, List.getElem_cons_zero, List.setIfInBounds_toArray, List.set_cons_zero, List.set_cons_succ]
  refine wpAnyH_take (i := 4) (v := ?_) rfl (by kernel_rfl) (by kernel_rfl) (by kernel_rfl) (fun _ _ _ h => h) (Or.inl ⟨by kernel_rfl, ?_⟩) (by assumption) ?_
  rotate_left
  · intro w hSw; go_simp; (try with_reducible rfl)
  try simp only [Act.put, List.getElem_toArray, List.getElem_cons_succ, List.getElem_cons_zero, List.setIfInBounds_toArray, List.set_cons_zero, List.set_cons_succ]
  refine wpAnyH_take (i := 5) (v := ?_) rfl (by kernel_rfl) (by kernel_rfl) (by kernel_rfl) (fun _ _ _ h => h) (Or.inl ⟨by kernel_rfl, ?_⟩) (by assumption) ?_
  rotate_left
  · intro w hSw; go_simp; (try with_reducible rfl)
  try simp only [Act.put, List.getElem_toArray, List.getElem_cons_succ, List.getElem_cons_zero, List.setIfInBounds_toArray, List.set_cons_zero, List.set_cons_succ]
  refine wpAnyH_take (i := 6) (v := ?_) rfl (by kernel_rfl) (by kernel_rfl) (by kernel_rfl) (fun _ _ _ h => h) (Or.inl ⟨by kernel_rfl, ?_⟩) (by assumption) ?_
  rotate_left
  · intro w hSw; have c := (Hq.held h8 hSw).1.2.1; go_simp; (try with_reducible rfl)
  try simp only [Act.put, List.getElem_toArray, List.getElem_cons_succ, List.getElem_cons_zero, List.setIfInBounds_toArray, List.set_cons_zero, List.set_cons_succ]
  refine wpAnyH_take (i := 7) (v := ?_) rfl (by kernel_rfl) (by kernel_rfl) (by kernel_rfl) (fun _ _ _ h => h) (Or.inl ⟨by kernel_rfl, ?_⟩) (by assumption) ?_
  rotate_left
  · intro w hSw; go_simp; (try with_reducible rfl)
  try simp only [Act.put, List.getElem_toArray, List.getElem_cons_succ, List.getElem_cons_zero, List.setIfInBounds_toArray, List.set_cons_zero, List.set_cons_succ]
  refine wpAnyH_take (i := 8) (v := ?_) rfl (by kernel_rfl) (by kernel_rfl) (by kernel_rfl) (fun _ _ _ h => h) (Or.inl ⟨by kernel_rfl, ?_⟩) (by assumption) ?_
  rotate_left
  · intro w hSw; go_simp; (try with_reducible rfl)
  try simp only [Act.put, List.getElem_toArray, List.getElem_cons_succ, List.getElem_cons_zero, List.setIfInBounds_toArray, List.set_cons_zero, List.set_cons_succ]
  refine wpAnyH_take (i := 9) (v := ?_) rfl (by kernel_rfl) (by kernel_rfl) (by kernel_rfl) (fun _ _ _ h => h) (Or.inl ⟨by kernel_rfl, ?_⟩) (by assumption) ?_
  rotate_left
  · intro w hSw; have c := (Hq.held h8 hSw).1.2.2.1; go_simp; (try with_reducible rfl)
  try simp only [Act.put, List.getElem_toArray, List.getElem_cons_succ, List.getElem_cons_zero, List.setIfInBounds_toArray, List.set_cons_zero, List.set_cons_succ]
  refine wpAnyH_take (i := 10) (v := ?_) rfl (by kernel_rfl) (by kernel_rfl) (by kernel_rfl) (fun _ _ _ h => h) (Or.inl ⟨by kernel_rfl, ?_⟩) (by assumption) ?_
  rotate_left
  · intro w hSw; go_simp; (try with_reducible rfl)
  try simp only [Act.put, List.getElem_toArray, List.getElem_cons_succ, List.getElem_cons_zero, List.setIfInBounds_toArray, List.set_cons_zero, List.set_cons_succ]
  refine wpAnyH_take (i := 11) (v := ?_) rfl (by kernel_rfl) (by kernel_rfl) (by kernel_rfl) (fun _ _ _ h => h) (Or.inl ⟨by kernel_rfl, ?_⟩) (by assumption) ?_
  rotate_left
  · intro w hSw; go_simp; (try with_reducible rfl)
  try simp only [Act.put, List.getElem_toArray, List.getElem_cons_succ, List.getElem_cons_zero, List.setIfInBounds_toArray, List.set_cons_zero, List.set_cons_succ]
  refine wpAnyH_take (i := 12) (v := ?_) rfl (by kernel_rfl) (by kernel_rfl) (by kernel_rfl) (fun _ _ _ h => h) (Or.inl ⟨by kernel_rfl, ?_⟩) (by assumption) ?_
  rotate_left
  · intro w hSw; have c := (Hq.held h8 hSw).1.2.2.2.1; go_simp; (try with_reducible rfl)
  try simp only [Act.put, List.getElem_toArray, List.getElem_cons_succ, List.getElem_cons_zero, List.setIfInBounds_toArray, List.set_cons_zero, List.set_cons_succ]
  refine wpAnyH_take (i := 13) (v := ?_) rfl (by kernel_rfl) (by kernel_rfl) (by kernel_rfl) (fun _ _ _ h => h) (Or.inl ⟨by kernel_rfl, ?_⟩) (by assumption) ?_
  rotate_left
  · intro w hSw; go_simp; (try with_reducible rfl)
  try simp only [Act.put, List.getElem_toArray, List.getElem_cons_succ, List.getElem_cons_zero, List.setIfInBounds_toArray, List.set_cons_zero, List.set_cons_succ]
  refine wpAnyH_take (i := 14) (v := ?_) rfl (by kernel_rfl) (by kernel_rfl) (by kernel_rfl) (fun _ _ _ h => h) (Or.inl ⟨by kernel_rfl, ?_⟩) (by assumption) ?_
  rotate_left
  · intro w hSw; go_simp; (try with_reducible rfl)
  try simp only [Act.put, List.getElem_toArray, List.getElem_cons_succ, List.getElem_cons_zero, List.setIfInBounds_toArray, List.set_cons_zero, List.set_cons_succ]
  refine wpAnyH_take (i := 15) (v := ?_) rfl (by kernel_rfl) (by kernel_rfl) (by kernel_rfl) (fun _ _ _ h => h) (Or.inl ⟨by kernel_rfl, ?_⟩) (by assumption) ?_
  rotate_left
  · intro w hSw; have c := (Hq.held h8 hSw).1.2.2.2.2.1; go_simp; (try with_reducible rfl)
  try simp only [Act.put, List.getElem_toArray, List.getElem_cons_succ, List.getElem_cons_zero, List.setIfInBounds_toArray, List.set_cons_zero, List.set_cons_succ]
  refine wpAnyH_take (i := 16) (v := ?_) rfl (by kernel_rfl) (by kernel_rfl) (by kernel_rfl) (fun _ _ _ h => h) (Or.inl ⟨by kernel_rfl, ?_⟩) (by assumption) ?_
  rotate_left
  · intro w hSw; go_simp; (try with_reducible rfl)
  try simp only [Act.put, List.getElem_toArray, List.getElem_cons_succ, List.getElem_cons_zero, List.setIfInBounds_toArray, List.set_cons_zero, List.set_cons_succ]
  refine wpAnyH_take (i := 17) (v := ?_) rfl (by kernel_rfl) (by kernel_rfl) (by kernel_rfl) (fun _ _ _ h => h) (Or.inl ⟨by kernel_rfl, ?_⟩) (by assumption) ?_
  rotate_left
  · intro w hSw; go_simp; (try with_reducible rfl)
  try simp only [Act.put, List.getElem_toArray, List.getElem_cons_succ, List.getElem_cons_zero, List.setIfInBounds_toArray, List.set_cons_zero, List.set_cons_succ]
  refine wpAnyH_take (i := 18) (v := ?_) rfl (by kernel_rfl) (by kernel_rfl) (by kernel_rfl) (fun _ _ _ h => h) (Or.inl ⟨by kernel_rfl, ?_⟩) (by assumption) ?_
  rotate_left
  · intro w hSw; go_simp; (try with_reducible rfl)
  try simp only [Act.put, List.getElem_toArray, List.getElem_cons_succ, List.getElem_cons_zero, List.setIfInBounds_toArray, List.set_cons_zero, List.set_cons_succ]
  refine wpAnyH_take (i := 19) (v := ?_) rfl (by kernel_rfl) (by kernel_rfl) (by kernel_rfl) (fun _ _ _ h => h) (Or.inl ⟨by kernel_rfl, ?_⟩) (by assumption) ?_
  rotate_left
  · intro w hSw; have c := (Hq.held h8 hSw).1.2.2.2.2.2; go_simp; (try with_reducible rfl)
  try simp only [Act.put, List.getElem_toArray, List.getElem_cons_succ, List.getElem_cons_zero, List.setIfInBounds_toArray, List.set_cons_zero, List.set_cons_succ]
  refine wpAnyH_take (i := 20) (v := ?_) rfl (by kernel_rfl) (by kernel_rfl) (by kernel_rfl) (fun _ _ _ h => h) (Or.inl ⟨by kernel_rfl, ?_⟩) (by assumption) ?_
  rotate_left
  · intro w hSw; go_simp; (try with_reducible rfl)
  try simp only [Act.put, List.getElem_toArray, List.getElem_cons_succ, List.getElem_cons_zero, List.setIfInBounds_toArray, List.set_cons_zero, List.set_cons_succ]
  refine wpAnyH_take (i := 21) (v := ?_) rfl (by kernel_rfl) (by kernel_rfl) (by kernel_rfl) (fun _ _ _ h => h) (Or.inl ⟨by kernel_rfl, ?_⟩) (by assumption) ?_
  rotate_left
  · intro w hSw; go_simp; (try with_reducible rfl)
  try simp only [Act.put, List.getElem_toArray, List.getElem_cons_succ, List.getElem_cons_zero, List.setIfInBounds_toArray, List.set_cons_zero, List.set_cons_succ]
  have hq := hHeld
  refine wpAnyH_ready (rs := [22]) (by kernel_rfl) (by simp) ?_
  refine AllReadyH.cons rfl (fun K hK => ?_) AllReadyH.nil
  go_simp
  refine hK.out _ _ (hHeld.alloc _) (fun hHeld => ?_)
  clear hK K
  try simp only [Act.put, List.getElem_toArray, List.getElem_cons_succ, List.getElem_cons_zero, List.setIfInBounds_toArray, List.set_cons_zero, List.set_cons_succ]
  refine wpAnyH_ready (rs := [23]) (by kernel_rfl) (by simp) ?_
  refine AllReadyH.cons rfl (fun K hK => ?_) AllReadyH.nil
  go_simp
  refine hK.out _ _ (hq.alloc _) (fun _ => ?_)
  clear hK K hHeld
  try simp only [Act.put, List.getElem_toArray, List.getElem_cons_succ, List.getElem_cons_zero, List.setIfInBounds_toArray, List.set_cons_zero, List.set_cons_succ]
  refine wpAnyH_done (by kernel_rfl) ?_ _
  have hr : Rq w l b off W0.heap.size (rcl l (.slice none 0 0) (.slice none 0 0)) (W0.alloc (.cells #[.int .i64 (lg l 0).toNat, .int .u32 (lg l 1).toNat, .int .u32 (lg l 2).toNat, .int .u32 (lg l 3).toNat, .int .u32 (lg l 4).toNat, .slice none 0 0, .slice none 0 0, .int .i64 (lg l 5).toNat] 28)) := ⟨hq.alloc _, Blk.new W0 _ _, hq.z.lt, hq.lb⟩
  clear hq
  generalize World.alloc W0 _ = W1 at hr ⊢
  generalize W0.heap.size = R at hr ⊢
  have c6 := hr.word 6 l6
  go_wp2_with fail
  clear c6
  go_loopw [8] (fun u wr => ∃ (k : Nat) (v : Value), k ≤ (lg l 6).toNat ∧ u = .int .i64 k ∧ Rq w l b off R (rcl l v (.slice none 0 0)) wr ∧ wr.ownsRow (R + 1) 3 1 v k ((psW l k).map iv) ∧ Hid (∀ i, i < k → (lg l (7 + i)).toNat ≤ 4)) (fun u _ => (lg l 6).toNat - (intOf u).toNat)
  case atStart => exact ⟨0, .slice none 0 0, Nat.zero_le _, rfl, hr, ⟨rfl, .inl ⟨rfl, rfl⟩⟩, fun i h => absurd h (Nat.not_lt_zero i)⟩
  case round =>
    clear hr
    obtain ⟨k, v, hk, rfl, h, ho, HS⟩ := hrel
    by_cases hlt : k < (lg l 6).toNat
    · have hkI : (k : Int) < (lg l 6).toNat := by omega
      have hk7 : 7 + k < l.length := by omega
      have e1 : (7 : Int) + k < l.length := by omega
      have e0 : (0 : Int) ≤ 7 + (k : Int) := by omega
      have et : ((7 : Int) + (k : Int)).toNat = 7 + k := by omega
      have ew : IntKind.i64.wrap ((7 : Int) + (k : Int)) = 7 + (k : Int) := IntWalk.i64_in _ (by omega)
      obtain ⟨X, hX⟩ : ∃ X, (lg l (7 + k)).toNat = X := ⟨_, rfl⟩
      have hXlt : X < 4294967296 := by rw [← hX]; exact (lg l (7 + k)).toNat_lt
      have HX := Lib.hid hX
      have cw : wr.cell? ⟨b, off + (7 + k), none⟩ = some (.int .u32 X) := by rw [← hX]; exact h.word _ hk7
      clear hX
      by_cases h4X : 4 < X
      · have h4I : (4 : Int) < X := by omega
        have HZ := Lib.hid h.zblk
        have HB := Lib.hid h.h.bel
        obtain ⟨⟨z0, z1, z2, z3, z4, z5, z6, z7⟩, y0, y1, y2, y3, y4, y5, y6, y7⟩ := HZ.out.all8
        have HBad : Hid (∀ (t : Int) (I : Nat → UInt32) (ps : List Int) (ds : List (Nat → UInt32)) (f : Int), rightR t I ps ds.length f = true → wordsR t I ps ds f ≠ l) := fun t I ps ds f hr e => by have := (words_in hr e).2.2.2.2.2.1 k hlt; rw [HX.out] at this; omega
        clear h ho h4X
        go_wp2_with fail
        obtain ⟨W8, hW8, hz8, hb8, -⟩ := HZ.out.out8 HB.out (Nat.le_refl _) (.int .i64 0) (.int .u32 0) (.int .u32 0) (.int .u32 0) (.int .u32 0) (.slice none 0 0) (.slice none 0 0) (.int .i64 0)
        rw [← hW8]
        clear hW8
        refine bodyPost_ret (resT_row Tryd.results17 _ W8 w.heap.size _ _ rfl hz8 Tryd.underlying28 rfl (by kernel_rfl)) rfl ?_
        exact ⟨.inr ⟨rfl, HBad.out⟩, hb8⟩
      · have h4I : ¬ (4 : Int) < X := by omega
        have rX : IntKind.i64.wrap (X : Int) = X := IntWalk.i64_in _ (by omega)
        go_wp2_with fail
        have hS : Hid (∀ {cs : Array Value} {W : World}, Rq w l b off R cs W → W.cell? ⟨b, off + (7 + k), none⟩ = some (.int .u32 X)) := fun h => by rw [← HX.out]; exact h.word _ hk7
        have h0' := h.drew
        have ho0 : wr.drew.ownsRow (R + 1) 3 1 v k ((psW l k).map iv) := ho
        refine wp_region_held_drew (S := (fun W => W.cell? ⟨b, off + (7 + k), none⟩ = some (.int .u32 X))) (by kernel_rfl) cw (fun hHeld => ?_)
        clear h ho cw
        generalize World.drew wr = V0 at hHeld h0' ho0 ⊢
        refine wpAnyH_take (i := 0) (v := ?_) rfl (by kernel_rfl) (by kernel_rfl) (by kernel_rfl) (fun _ _ _ h => h) (Or.inl ⟨by kernel_rfl, ?_⟩) (by assumption) ?_
        rotate_left
        · intro w hSw; (try dsimp only at hSw); go_simp; (try with_reducible rfl)
        try simp only [Act.put, List.getElem_toArray, List.getElem_cons_zero, List.setIfInBounds_toArray, List.set_cons_zero, List.set_cons_succ]
        refine wpAnyH_take (i := 2) (v := ?_) rfl (by kernel_rfl) (by kernel_rfl) (by kernel_rfl) (fun _ _ _ h => h) (Or.inl ⟨by kernel_rfl, ?_⟩) (by assumption) ?_
        rotate_left
        · intro w hSw; (try dsimp only at hSw); go_simp; (try with_reducible rfl)
        try simp only [Act.put, List.getElem_toArray, List.getElem_cons_succ, List.getElem_cons_zero, List.setIfInBounds_toArray, List.set_cons_zero, List.set_cons_succ]
        refine wpAnyH_take (i := 3) (v := ?_) rfl (by kernel_rfl) (by kernel_rfl) (by kernel_rfl) (fun _ _ _ h => h) (Or.inl ⟨by kernel_rfl, ?_⟩) (by assumption) ?_
        rotate_left
        · intro w hSw; (try dsimp only at hSw); go_simp; (try with_reducible rfl)
        try simp only [Act.put, List.getElem_toArray, List.getElem_cons_succ, List.getElem_cons_zero, List.setIfInBounds_toArray, List.set_cons_zero, List.set_cons_succ]
        refine wpAnyH_take (i := 4) (v := ?_) rfl (by kernel_rfl) (by kernel_rfl) (by kernel_rfl) (fun _ _ _ h => h) (Or.inl ⟨by kernel_rfl, ?_⟩) (by assumption) ?_
        rotate_left
        · intro w hSw; (try dsimp only at hSw); go_simp; (try with_reducible rfl)
        try simp only [Act.put, List.getElem_toArray, List.getElem_cons_succ, List.getElem_cons_zero, List.setIfInBounds_toArray, List.set_cons_zero, List.set_cons_succ]
        refine wpAnyH_take (i := 5) (v := ?_) rfl (by kernel_rfl) (by kernel_rfl) (by kernel_rfl) (fun _ _ _ h => h) (Or.inl ⟨by kernel_rfl, ?_⟩) (by assumption) ?_
        rotate_left
        · intro w hSw; (try dsimp only at hSw); go_simp; (try with_reducible rfl)
        try simp only [Act.put, List.getElem_toArray, List.getElem_cons_succ, List.getElem_cons_zero, List.setIfInBounds_toArray, List.set_cons_zero, List.set_cons_succ]
        refine wpAnyH_take (i := 6) (v := ?_) rfl (by kernel_rfl) (by kernel_rfl) (by kernel_rfl) (fun _ _ _ h => h) (Or.inl ⟨by kernel_rfl, ?_⟩) (by assumption) ?_
        rotate_left
        · intro w hSw; (try dsimp only at hSw); go_simp; (try with_reducible rfl)
        try simp only [Act.put, List.getElem_toArray, List.getElem_cons_succ, List.getElem_cons_zero, List.setIfInBounds_toArray, List.set_cons_zero, List.set_cons_succ]
        refine wpAnyH_take (i := 7) (v := ?_) rfl (by kernel_rfl) (by kernel_rfl) (by kernel_rfl) (fun _ _ _ h => h) (Or.inl ⟨by kernel_rfl, ?_⟩) (by assumption) ?_
        rotate_left
        · intro w hSw; (try dsimp only at hSw); go_simp; (try with_reducible rfl)
        try simp only [Act.put, List.getElem_toArray, List.getElem_cons_succ, List.getElem_cons_zero, List.setIfInBounds_toArray, List.set_cons_zero, List.set_cons_succ]
        have hL := h0'.alloc (.cells #[.int .i64 X] 3)
        have v5 : V0.cell? ⟨R, 5, none⟩ = some v := h0'.bx.cell 5
        have v5' : (V0.alloc (.cells #[.int .i64 X] 3)).cell? ⟨R, 5, none⟩ = some v := hL.bx.cell 5
        have hsz : R + 1 ≤ V0.heap.size := h0'.bx.lt
        refine wpAnyH_ready (rs := [1, 8]) (by kernel_rfl) (by simp) ?_
        refine AllReadyH.cons rfl (fun K hK => ?_) (AllReadyH.cons rfl (fun K hK => ?_) AllReadyH.nil)
        · go_simp
          refine hK.out _ _ hHeld (fun hHeld => ?_)
          clear hK K
          try simp only [Act.put, List.getElem_toArray, List.getElem_cons_succ, List.getElem_cons_zero, List.setIfInBounds_toArray, List.set_cons_zero, List.set_cons_succ]
          refine wpAnyH_ready (rs := [8]) (by kernel_rfl) (by simp) ?_
          refine AllReadyH.cons rfl (fun K hK => ?_) AllReadyH.nil
          go_simp
          refine hK.out _ _ (hS.out hL) (fun hHeld => ?_)
          clear hK K
          try simp only [Act.put, List.getElem_toArray, List.getElem_cons_succ, List.getElem_cons_zero, List.setIfInBounds_toArray, List.set_cons_zero, List.set_cons_succ]
          refine wpAnyH_ready (rs := [9]) (by kernel_rfl) (by simp) ?_
          refine AllReadyH.cons rfl (fun K hK => ?_) AllReadyH.nil
          refine step_append_new rfl rfl _ _ 25 rfl (R + 1) (.int .i64 0) 1 8 Tryd.underlying25 info_int rfl (by decide) _ k _ rfl ho0 1 rfl rfl (by simp [Value.oneCell']) (by omega) (by omega) hsz (by decide) ?_
          intro g1 c1 w3 hown1 hb1 hk1
          have h3 := h0'.above hb1
          refine hK.out _ _ (hS.out h3) (fun hHeld => ?_)
          clear hK K
          try simp only [Act.put, List.getElem_toArray, List.getElem_cons_succ, List.getElem_cons_zero, List.setIfInBounds_toArray, List.set_cons_zero, List.set_cons_succ]
          have t5 : w3.cell? ⟨R, 5, none⟩ = some v := h3.bx.cell 5
          have f5 := h3.bx.frozen 5
          have h4' : Rq w l b off R (rcl l (.slice (some ⟨g1, 0, none⟩) (k + 1) c1) (.slice none 0 0)) (w3.setCell ⟨R, 5, none⟩ (.slice (some ⟨g1, 0, none⟩) (k + 1) c1)) := h3.set 5 _
          have ho4 : (w3.setCell ⟨R, 5, none⟩ (.slice (some ⟨g1, 0, none⟩) (k + 1) c1)).ownsRow (R + 1) 3 1 (.slice (some ⟨g1, 0, none⟩) (k + 1) c1) (k + 1) ((psW l (k + 1)).map iv) := by rw [psW_snoc, List.map_append, HX.out]; exact ownsRow_setCell_below (a := ⟨R, 5, none⟩) hown1 (Nat.lt_succ_self _) _
          clear h3 hown1 hb1 hk1 hL v5 v5' h0' ho0
          refine wpAnyH_take (i := 10) (v := ?_) rfl (by kernel_rfl) (by kernel_rfl) (by kernel_rfl) (fun _ _ _ h => h) (Or.inl ⟨by kernel_rfl, ?_⟩) (by assumption) ?_
          rotate_left
          · intro w hSw; (try dsimp only at hSw); go_simp; (try with_reducible rfl)
          try simp only [Act.put, List.getElem_toArray, List.getElem_cons_succ, List.getElem_cons_zero, List.setIfInBounds_toArray, List.set_cons_zero, List.set_cons_succ]
          refine wpAnyH_ready (rs := [11]) (by kernel_rfl) (by simp) ?_
          refine AllReadyH.cons rfl (fun K hK => ?_) AllReadyH.nil
          go_simp
          refine hK.out _ _ (hS.out h4') (fun hHeld => ?_)
          clear hK K
          try simp only [Act.put, List.getElem_toArray, List.getElem_cons_succ, List.getElem_cons_zero, List.setIfInBounds_toArray, List.set_cons_zero, List.set_cons_succ]
          refine wpAnyH_done (by kernel_rfl) ?_ _
          generalize World.setCell w3 _ _ = w4 at h4' ho4 ⊢
          have H4 := Lib.hid h4'
          have HO4 := Lib.hid ho4
          have HS4 : Hid (∀ i, i < k + 1 → (lg l (7 + i)).toNat ≤ 4) := small_snoc HS.out HX.out (by omega)
          clear h4' ho4 t5 f5 hHeld hS
          go_wp2_with fail
          go_roundw
          case rel => exact ⟨k + 1, _, hlt, by go_num, H4.out, HO4.out, HS4.out⟩
          case measure => simp [intOf]; omega
        · go_simp
          refine hK.out _ _ (hS.out hL) (fun hHeld => ?_)
          clear hK K
          try simp only [Act.put, List.getElem_toArray, List.getElem_cons_succ, List.getElem_cons_zero, List.setIfInBounds_toArray, List.set_cons_zero, List.set_cons_succ]
          refine wpAnyH_ready (rs := [1]) (by kernel_rfl) (by simp) ?_
          refine AllReadyH.cons rfl (fun K hK => ?_) AllReadyH.nil
          go_simp
          refine hK.out _ _ (hS.out hL) (fun hHeld => ?_)
          clear hK K
          try simp only [Act.put, List.getElem_toArray, List.getElem_cons_succ, List.getElem_cons_zero, List.setIfInBounds_toArray, List.set_cons_zero, List.set_cons_succ]
          refine wpAnyH_ready (rs := [9]) (by kernel_rfl) (by simp) ?_
          refine AllReadyH.cons rfl (fun K hK => ?_) AllReadyH.nil
          refine step_append_new rfl rfl _ _ 25 rfl (R + 1) (.int .i64 0) 1 8 Tryd.underlying25 info_int rfl (by decide) _ k _ rfl ho0 1 rfl rfl (by simp [Value.oneCell']) (by omega) (by omega) hsz (by decide) ?_
          intro g1 c1 w3 hown1 hb1 hk1
          have h3 := h0'.above hb1
          refine hK.out _ _ (hS.out h3) (fun hHeld => ?_)
          clear hK K
          try simp only [Act.put, List.getElem_toArray, List.getElem_cons_succ, List.getElem_cons_zero, List.setIfInBounds_toArray, List.set_cons_zero, List.set_cons_succ]
          have t5 : w3.cell? ⟨R, 5, none⟩ = some v := h3.bx.cell 5
          have f5 := h3.bx.frozen 5
          have h4' : Rq w l b off R (rcl l (.slice (some ⟨g1, 0, none⟩) (k + 1) c1) (.slice none 0 0)) (w3.setCell ⟨R, 5, none⟩ (.slice (some ⟨g1, 0, none⟩) (k + 1) c1)) := h3.set 5 _
          have ho4 : (w3.setCell ⟨R, 5, none⟩ (.slice (some ⟨g1, 0, none⟩) (k + 1) c1)).ownsRow (R + 1) 3 1 (.slice (some ⟨g1, 0, none⟩) (k + 1) c1) (k + 1) ((psW l (k + 1)).map iv) := by rw [psW_snoc, List.map_append, HX.out]; exact ownsRow_setCell_below (a := ⟨R, 5, none⟩) hown1 (Nat.lt_succ_self _) _
          clear h3 hown1 hb1 hk1 hL v5 v5' h0' ho0
          refine wpAnyH_take (i := 10) (v := ?_) rfl (by kernel_rfl) (by kernel_rfl) (by kernel_rfl) (fun _ _ _ h => h) (Or.inl ⟨by kernel_rfl, ?_⟩) (by assumption) ?_
          rotate_left
          · intro w hSw; (try dsimp only at hSw); go_simp; (try with_reducible rfl)
          try simp only [Act.put, List.getElem_toArray, List.getElem_cons_succ, List.getElem_cons_zero, List.setIfInBounds_toArray, List.set_cons_zero, List.set_cons_succ]
          refine wpAnyH_ready (rs := [11]) (by kernel_rfl) (by simp) ?_
          refine AllReadyH.cons rfl (fun K hK => ?_) AllReadyH.nil
          go_simp
          refine hK.out _ _ (hS.out h4') (fun hHeld => ?_)
          clear hK K
          try simp only [Act.put, List.getElem_toArray, List.getElem_cons_succ, List.getElem_cons_zero, List.setIfInBounds_toArray, List.set_cons_zero, List.set_cons_succ]
          refine wpAnyH_done (by kernel_rfl) ?_ _
          generalize World.setCell w3 _ _ = w4 at h4' ho4 ⊢
          have H4 := Lib.hid h4'
          have HO4 := Lib.hid ho4
          have HS4 : Hid (∀ i, i < k + 1 → (lg l (7 + i)).toNat ≤ 4) := small_snoc HS.out HX.out (by omega)
          clear h4' ho4 t5 f5 hHeld hS
          go_wp2_with fail
          go_roundw
          case rel => exact ⟨k + 1, _, hlt, by go_num, H4.out, HO4.out, HS4.out⟩
          case measure => simp [intOf]; omega
    · have hkN : k = (lg l 6).toNat := by omega
      subst hkN
      have e1 : (7 : Int) + (lg l 6).toNat < l.length := by omega
      have e0 : (0 : Int) ≤ 7 + ((lg l 6).toNat : Int) := by omega
      have et : ((7 : Int) + ((lg l 6).toNat : Int)).toNat = 7 + (lg l 6).toNat := by omega
      have ew : IntKind.i64.wrap ((7 : Int) + ((lg l 6).toNat : Int)) = 7 + ((lg l 6).toNat : Int) := IntWalk.i64_in _ (by omega)
      have ew8 : IntKind.i64.wrap ((8 : Int) + ((lg l 6).toNat : Int)) = 8 + ((lg l 6).toNat : Int) := IntWalk.i64_in _ (by omega)
      obtain ⟨M, hM⟩ : ∃ M, (lg l (7 + (lg l 6).toNat)).toNat = M := ⟨_, rfl⟩
      have hMlt : M < 4294967296 := by rw [← hM]; exact (lg l (7 + (lg l 6).toNat)).toNat_lt
      have cM : wr.cell? ⟨b, off + (7 + (lg l 6).toNat), none⟩ = some (.int .u32 M) := by rw [← hM]; exact h.word _ (by omega)
      have rM : IntKind.i64.wrap (M : Int) = M := IntWalk.i64_in _ (by omega)
      have HM := Lib.hid hM
      clear hM
      by_cases hM20 : 20 < M
      · have hMI : (20 : Int) < M := by omega
        have HZ := Lib.hid h.zblk
        have HB := Lib.hid h.h.bel
        obtain ⟨⟨z0, z1, z2, z3, z4, z5, z6, z7⟩, y0, y1, y2, y3, y4, y5, y6, y7⟩ := HZ.out.all8
        have HBad : Hid (∀ (t : Int) (I : Nat → UInt32) (ps : List Int) (ds : List (Nat → UInt32)) (f : Int), rightR t I ps ds.length f = true → wordsR t I ps ds f ≠ l) := fun t I ps ds f hr e => by have := (words_in hr e).2.2.2.2.2.2.1; rw [HM.out] at this; omega
        clear h ho
        go_wp2_with fail
        obtain ⟨W8, hW8, hz8, hb8, -⟩ := HZ.out.out8 HB.out (Nat.le_refl _) (.int .i64 0) (.int .u32 0) (.int .u32 0) (.int .u32 0) (.int .u32 0) (.slice none 0 0) (.slice none 0 0) (.int .i64 0)
        rw [← hW8]
        clear hW8
        refine bodyPost_ret (resT_row Tryd.results17 _ W8 w.heap.size _ _ rfl hz8 Tryd.underlying28 rfl (by kernel_rfl)) rfl ?_
        exact ⟨.inr ⟨rfl, HBad.out⟩, hb8⟩
      have hMI : ¬ (20 : Int) < M := by omega
      have em4 : IntKind.i64.wrap (4 * (M : Int)) = 4 * (M : Int) := IntWalk.i64_in _ (by omega)
      have es8 : IntKind.i64.wrap ((8 : Int) + ((lg l 6).toNat : Int) + 4 * (M : Int)) = 8 + ((lg l 6).toNat : Int) + 4 * (M : Int) := IntWalk.i64_in _ (by omega)
      by_cases hlen : l.length = 8 + (lg l 6).toNat + 4 * M
      · have hne2 : ((l.length : Int) != 8 + ((lg l 6).toNat : Int) + 4 * (M : Int)) = false := by rw [bne_eq_false_iff_eq]; omega
        have H0 := Lib.hid h
        have HO0 := Lib.hid ho
        have HLEN := Lib.hid hlen
        clear h ho hlen
        go_wp2_with fail
        clear cM hne2
        go_loopw [10] (fun u wr => ∃ (j : Nat) (v2 : Value), j ≤ M ∧ u = .int .i64 j ∧ Rq w l b off R (rcl l v v2) wr ∧ wr.ownsRow (R + 1) 3 1 v (lg l 6).toNat ((psW l (lg l 6).toNat).map iv) ∧ wr.ownsRow (R + 1) 24 4 v2 j (((dsW l (lg l 6).toNat j).flatMap dgL).map wv)) (fun u _ => M - (intOf u).toNat)
        case atStart => exact ⟨0, .slice none 0 0, Nat.zero_le _, rfl, H0.out, HO0.out, ⟨rfl, .inl ⟨rfl, rfl⟩⟩⟩
        case round =>
          clear H0 HO0
          obtain ⟨j, v2, hj, rfl, h, ho, ho2⟩ := hrel
          by_cases hlt : j < M
          · have hjI : (j : Int) < M := by omega
            obtain ⟨P, hP⟩ : ∃ P : Nat, 8 + (lg l 6).toNat + 4 * j = P := ⟨_, rfl⟩
            have ej4 : IntKind.i64.wrap (4 * (j : Int)) = 4 * (j : Int) := IntWalk.i64_in _ (by omega)
            have ejP : (8 : Int) + ((lg l 6).toNat : Int) + 4 * (j : Int) = P := by omega
            have ewP : IntKind.i64.wrap (P : Int) = P := IntWalk.i64_in _ (by omega)
            have HP := Lib.hid hP
            have p3 : P + 3 < l.length := by have := HLEN.out; have := HP.out; omega
            have np0 : P < l.length := by omega
            have ei0 : (P : Int) < l.length := by omega
            have en0 : (0 : Int) ≤ (P : Int) := by omega
            have ew11 : IntKind.i64.wrap ((P : Int) + 1) = (P : Int) + 1 := IntWalk.i64_in _ (by omega)
            have ei1 : (P : Int) + 1 < l.length := by omega
            have en1 : (0 : Int) ≤ (P : Int) + 1 := by omega
            have et1 : ((P : Int) + 1).toNat = P + 1 := by omega
            have ew12 : IntKind.i64.wrap ((P : Int) + 2) = (P : Int) + 2 := IntWalk.i64_in _ (by omega)
            have ei2 : (P : Int) + 2 < l.length := by omega
            have en2 : (0 : Int) ≤ (P : Int) + 2 := by omega
            have et2 : ((P : Int) + 2).toNat = P + 2 := by omega
            have ew13 : IntKind.i64.wrap ((P : Int) + 3) = (P : Int) + 3 := IntWalk.i64_in _ (by omega)
            have ei3 : (P : Int) + 3 < l.length := by omega
            have en3 : (0 : Int) ≤ (P : Int) + 3 := by omega
            have et3 : ((P : Int) + 3).toNat = P + 3 := by omega
            have hS : Hid (∀ {cs : Array Value} {W : World}, Rq w l b off R cs W → W.cell? ⟨b, off + P, none⟩ = some (.int .u32 (lg l P).toNat) ∧ W.cell? ⟨b, off + (P + 1), none⟩ = some (.int .u32 (lg l (P + 1)).toNat) ∧ W.cell? ⟨b, off + (P + 2), none⟩ = some (.int .u32 (lg l (P + 2)).toNat) ∧ W.cell? ⟨b, off + (P + 3), none⟩ = some (.int .u32 (lg l (P + 3)).toNat)) := fun h => ⟨h.word _ (by omega), h.word _ (by omega), h.word _ (by omega), h.word _ (by omega)⟩
            clear hP
            go_wp2_with fail
            have h0' := h.drew
            have ho0 : wr.drew.ownsRow (R + 1) 3 1 v (lg l 6).toNat ((psW l (lg l 6).toNat).map iv) := ho
            have hp0 : wr.drew.ownsRow (R + 1) 24 4 v2 j (((dsW l (lg l 6).toNat j).flatMap dgL).map wv) := ho2
            refine wp_region_held_drew (S := (fun W => W.cell? ⟨b, off + P, none⟩ = some (.int .u32 (lg l P).toNat) ∧ W.cell? ⟨b, off + (P + 1), none⟩ = some (.int .u32 (lg l (P + 1)).toNat) ∧ W.cell? ⟨b, off + (P + 2), none⟩ = some (.int .u32 (lg l (P + 2)).toNat) ∧ W.cell? ⟨b, off + (P + 3), none⟩ = some (.int .u32 (lg l (P + 3)).toNat))) (by kernel_rfl) (hS.out h0') (fun hHeld => ?_)
            clear h ho ho2
            generalize World.drew wr = V0 at hHeld h0' ho0 hp0 ⊢
            refine wpAnyH_take (i := 0) (v := ?_) rfl (by kernel_rfl) (by kernel_rfl) (by kernel_rfl) (fun _ _ _ h => h) (Or.inl ⟨by kernel_rfl, ?_⟩) (by assumption) ?_
            rotate_left
            · intro w hSw; obtain ⟨s0, s1, s2, s3⟩ := hSw; go_simp; (try with_reducible rfl)
            try simp only [Act.put, List.getElem_toArray, List.getElem_cons_zero, List.setIfInBounds_toArray, List.set_cons_zero, List.set_cons_succ]
            refine wpAnyH_take (i := 2) (v := ?_) rfl (by kernel_rfl) (by kernel_rfl) (by kernel_rfl) (fun _ _ _ h => h) (Or.inl ⟨by kernel_rfl, ?_⟩) (by assumption) ?_
            rotate_left
            · intro w hSw; obtain ⟨s0, s1, s2, s3⟩ := hSw; go_simp; (try with_reducible rfl)
            try simp only [Act.put, List.getElem_toArray, List.getElem_cons_succ, List.getElem_cons_zero, List.setIfInBounds_toArray, List.set_cons_zero, List.set_cons_succ]
            refine wpAnyH_take (i := 3) (v := ?_) rfl (by kernel_rfl) (by kernel_rfl) (by kernel_rfl) (fun _ _ _ h => h) (Or.inl ⟨by kernel_rfl, ?_⟩) (by assumption) ?_
            rotate_left
            · intro w hSw; obtain ⟨s0, s1, s2, s3⟩ := hSw; go_simp; (try with_reducible rfl)
            try simp only [Act.put, List.getElem_toArray, List.getElem_cons_succ, List.getElem_cons_zero, List.setIfInBounds_toArray, List.set_cons_zero, List.set_cons_succ]
            refine wpAnyH_take (i := 4) (v := ?_) rfl (by kernel_rfl) (by kernel_rfl) (by kernel_rfl) (fun _ _ _ h => h) (Or.inl ⟨by kernel_rfl, ?_⟩) (by assumption) ?_
            rotate_left
            · intro w hSw; obtain ⟨s0, s1, s2, s3⟩ := hSw; go_simp; (try with_reducible rfl)
            try simp only [Act.put, List.getElem_toArray, List.getElem_cons_succ, List.getElem_cons_zero, List.setIfInBounds_toArray, List.set_cons_zero, List.set_cons_succ]
            refine wpAnyH_take (i := 5) (v := ?_) rfl (by kernel_rfl) (by kernel_rfl) (by kernel_rfl) (fun _ _ _ h => h) (Or.inl ⟨by kernel_rfl, ?_⟩) (by assumption) ?_
            rotate_left
            · intro w hSw; obtain ⟨s0, s1, s2, s3⟩ := hSw; go_simp; (try with_reducible rfl)
            try simp only [Act.put, List.getElem_toArray, List.getElem_cons_succ, List.getElem_cons_zero, List.setIfInBounds_toArray, List.set_cons_zero, List.set_cons_succ]
            refine wpAnyH_take (i := 6) (v := ?_) rfl (by kernel_rfl) (by kernel_rfl) (by kernel_rfl) (fun _ _ _ h => h) (Or.inl ⟨by kernel_rfl, ?_⟩) (by assumption) ?_
            rotate_left
            · intro w hSw; obtain ⟨s0, s1, s2, s3⟩ := hSw; go_simp; (try with_reducible rfl)
            try simp only [Act.put, List.getElem_toArray, List.getElem_cons_succ, List.getElem_cons_zero, List.setIfInBounds_toArray, List.set_cons_zero, List.set_cons_succ]
            refine wpAnyH_take (i := 7) (v := ?_) rfl (by kernel_rfl) (by kernel_rfl) (by kernel_rfl) (fun _ _ _ h => h) (Or.inl ⟨by kernel_rfl, ?_⟩) (by assumption) ?_
            rotate_left
            · intro w hSw; obtain ⟨s0, s1, s2, s3⟩ := hSw; go_simp; (try with_reducible rfl)
            try simp only [Act.put, List.getElem_toArray, List.getElem_cons_succ, List.getElem_cons_zero, List.setIfInBounds_toArray, List.set_cons_zero, List.set_cons_succ]
            refine wpAnyH_take (i := 8) (v := ?_) rfl (by kernel_rfl) (by kernel_rfl) (by kernel_rfl) (fun _ _ _ h => h) (Or.inl ⟨by kernel_rfl, ?_⟩) (by assumption) ?_
            rotate_left
            · intro w hSw; obtain ⟨s0, s1, s2, s3⟩ := hSw; go_simp; (try with_reducible rfl)
            try simp only [Act.put, List.getElem_toArray, List.getElem_cons_succ, List.getElem_cons_zero, List.setIfInBounds_toArray, List.set_cons_zero, List.set_cons_succ]
            refine wpAnyH_take (i := 9) (v := ?_) rfl (by kernel_rfl) (by kernel_rfl) (by kernel_rfl) (fun _ _ _ h => h) (Or.inl ⟨by kernel_rfl, ?_⟩) (by assumption) ?_
            rotate_left
            · intro w hSw; obtain ⟨s0, s1, s2, s3⟩ := hSw; go_simp; (try with_reducible rfl)
            try simp only [Act.put, List.getElem_toArray, List.getElem_cons_succ, List.getElem_cons_zero, List.setIfInBounds_toArray, List.set_cons_zero, List.set_cons_succ]
            refine wpAnyH_take (i := 10) (v := ?_) rfl (by kernel_rfl) (by kernel_rfl) (by kernel_rfl) (fun _ _ _ h => h) (Or.inl ⟨by kernel_rfl, ?_⟩) (by assumption) ?_
            rotate_left
            · intro w hSw; obtain ⟨s0, s1, s2, s3⟩ := hSw; go_simp; (try with_reducible rfl)
            try simp only [Act.put, List.getElem_toArray, List.getElem_cons_succ, List.getElem_cons_zero, List.setIfInBounds_toArray, List.set_cons_zero, List.set_cons_succ]
            refine wpAnyH_take (i := 11) (v := ?_) rfl (by kernel_rfl) (by kernel_rfl) (by kernel_rfl) (fun _ _ _ h => h) (Or.inl ⟨by kernel_rfl, ?_⟩) (by assumption) ?_
            rotate_left
            · intro w hSw; obtain ⟨s0, s1, s2, s3⟩ := hSw; go_simp; (try with_reducible rfl)
            try simp only [Act.put, List.getElem_toArray, List.getElem_cons_succ, List.getElem_cons_zero, List.setIfInBounds_toArray, List.set_cons_zero, List.set_cons_succ]
            refine wpAnyH_take (i := 12) (v := ?_) rfl (by kernel_rfl) (by kernel_rfl) (by kernel_rfl) (fun _ _ _ h => h) (Or.inl ⟨by kernel_rfl, ?_⟩) (by assumption) ?_
            rotate_left
            · intro w hSw; obtain ⟨s0, s1, s2, s3⟩ := hSw; go_simp; (try with_reducible rfl)
            try simp only [Act.put, List.getElem_toArray, List.getElem_cons_succ, List.getElem_cons_zero, List.setIfInBounds_toArray, List.set_cons_zero, List.set_cons_succ]
            refine wpAnyH_take (i := 13) (v := ?_) rfl (by kernel_rfl) (by kernel_rfl) (by kernel_rfl) (fun _ _ _ h => h) (Or.inl ⟨by kernel_rfl, ?_⟩) (by assumption) ?_
            rotate_left
            · intro w hSw; obtain ⟨s0, s1, s2, s3⟩ := hSw; go_simp; (try with_reducible rfl)
            try simp only [Act.put, List.getElem_toArray, List.getElem_cons_succ, List.getElem_cons_zero, List.setIfInBounds_toArray, List.set_cons_zero, List.set_cons_succ]
            refine wpAnyH_take (i := 14) (v := ?_) rfl (by kernel_rfl) (by kernel_rfl) (by kernel_rfl) (fun _ _ _ h => h) (Or.inl ⟨by kernel_rfl, ?_⟩) (by assumption) ?_
            rotate_left
            · intro w hSw; obtain ⟨s0, s1, s2, s3⟩ := hSw; go_simp; (try with_reducible rfl)
            try simp only [Act.put, List.getElem_toArray, List.getElem_cons_succ, List.getElem_cons_zero, List.setIfInBounds_toArray, List.set_cons_zero, List.set_cons_succ]
            refine wpAnyH_take (i := 15) (v := ?_) rfl (by kernel_rfl) (by kernel_rfl) (by kernel_rfl) (fun _ _ _ h => h) (Or.inl ⟨by kernel_rfl, ?_⟩) (by assumption) ?_
            rotate_left
            · intro w hSw; obtain ⟨s0, s1, s2, s3⟩ := hSw; go_simp; (try with_reducible rfl)
            try simp only [Act.put, List.getElem_toArray, List.getElem_cons_succ, List.getElem_cons_zero, List.setIfInBounds_toArray, List.set_cons_zero, List.set_cons_succ]
            refine wpAnyH_take (i := 16) (v := ?_) rfl (by kernel_rfl) (by kernel_rfl) (by kernel_rfl) (fun _ _ _ h => h) (Or.inl ⟨by kernel_rfl, ?_⟩) (by assumption) ?_
            rotate_left
            · intro w hSw; obtain ⟨s0, s1, s2, s3⟩ := hSw; go_simp; (try with_reducible rfl)
            try simp only [Act.put, List.getElem_toArray, List.getElem_cons_succ, List.getElem_cons_zero, List.setIfInBounds_toArray, List.set_cons_zero, List.set_cons_succ]
            refine wpAnyH_take (i := 17) (v := ?_) rfl (by kernel_rfl) (by kernel_rfl) (by kernel_rfl) (fun _ _ _ h => h) (Or.inl ⟨by kernel_rfl, ?_⟩) (by assumption) ?_
            rotate_left
            · intro w hSw; obtain ⟨s0, s1, s2, s3⟩ := hSw; go_simp; (try with_reducible rfl)
            try simp only [Act.put, List.getElem_toArray, List.getElem_cons_succ, List.getElem_cons_zero, List.setIfInBounds_toArray, List.set_cons_zero, List.set_cons_succ]
            refine wpAnyH_take (i := 18) (v := ?_) rfl (by kernel_rfl) (by kernel_rfl) (by kernel_rfl) (fun _ _ _ h => h) (Or.inl ⟨by kernel_rfl, ?_⟩) (by assumption) ?_
            rotate_left
            · intro w hSw; obtain ⟨s0, s1, s2, s3⟩ := hSw; go_simp; (try with_reducible rfl)
            try simp only [Act.put, List.getElem_toArray, List.getElem_cons_succ, List.getElem_cons_zero, List.setIfInBounds_toArray, List.set_cons_zero, List.set_cons_succ]
            refine wpAnyH_take (i := 19) (v := ?_) rfl (by kernel_rfl) (by kernel_rfl) (by kernel_rfl) (fun _ _ _ h => h) (Or.inl ⟨by kernel_rfl, ?_⟩) (by assumption) ?_
            rotate_left
            · intro w hSw; obtain ⟨s0, s1, s2, s3⟩ := hSw; go_simp; (try with_reducible rfl)
            try simp only [Act.put, List.getElem_toArray, List.getElem_cons_succ, List.getElem_cons_zero, List.setIfInBounds_toArray, List.set_cons_zero, List.set_cons_succ]
            refine wpAnyH_take (i := 20) (v := ?_) rfl (by kernel_rfl) (by kernel_rfl) (by kernel_rfl) (fun _ _ _ h => h) (Or.inl ⟨by kernel_rfl, ?_⟩) (by assumption) ?_
            rotate_left
            · intro w hSw; obtain ⟨s0, s1, s2, s3⟩ := hSw; go_simp; (try with_reducible rfl)
            try simp only [Act.put, List.getElem_toArray, List.getElem_cons_succ, List.getElem_cons_zero, List.setIfInBounds_toArray, List.set_cons_zero, List.set_cons_succ]
            refine wpAnyH_take (i := 21) (v := ?_) rfl (by kernel_rfl) (by kernel_rfl) (by kernel_rfl) (fun _ _ _ h => h) (Or.inl ⟨by kernel_rfl, ?_⟩) (by assumption) ?_
            rotate_left
            · intro w hSw; obtain ⟨s0, s1, s2, s3⟩ := hSw; go_simp; (try with_reducible rfl)
            try simp only [Act.put, List.getElem_toArray, List.getElem_cons_succ, List.getElem_cons_zero, List.setIfInBounds_toArray, List.set_cons_zero, List.set_cons_succ]
            have hL := h0'.alloc (.cells #[.int .u32 (lg l P).toNat, .int .u32 (lg l (P + 1)).toNat, .int .u32 (lg l (P + 2)).toNat, .int .u32 (lg l (P + 3)).toNat] 24)
            have v6 : V0.cell? ⟨R, 6, none⟩ = some v2 := h0'.bx.cell 6
            have v6' : (V0.alloc (.cells #[.int .u32 (lg l P).toNat, .int .u32 (lg l (P + 1)).toNat, .int .u32 (lg l (P + 2)).toNat, .int .u32 (lg l (P + 3)).toNat] 24)).cell? ⟨R, 6, none⟩ = some v2 := hL.bx.cell 6
            have hsz : R + 1 ≤ V0.heap.size := h0'.bx.lt
            refine wpAnyH_ready (rs := [1, 22]) (by kernel_rfl) (by simp) ?_
            refine AllReadyH.cons rfl (fun K hK => ?_) (AllReadyH.cons rfl (fun K hK => ?_) AllReadyH.nil)
            · go_simp
              refine hK.out _ _ hHeld (fun hHeld => ?_)
              clear hK K
              try simp only [Act.put, List.getElem_toArray, List.getElem_cons_succ, List.getElem_cons_zero, List.setIfInBounds_toArray, List.set_cons_zero, List.set_cons_succ]
              refine wpAnyH_ready (rs := [22]) (by kernel_rfl) (by simp) ?_
              refine AllReadyH.cons rfl (fun K hK => ?_) AllReadyH.nil
              go_simp
              refine hK.out _ _ (hS.out hL) (fun hHeld => ?_)
              clear hK K
              try simp only [Act.put, List.getElem_toArray, List.getElem_cons_succ, List.getElem_cons_zero, List.setIfInBounds_toArray, List.set_cons_zero, List.set_cons_succ]
              refine wpAnyH_ready (rs := [23]) (by kernel_rfl) (by simp) ?_
              refine AllReadyH.cons rfl (fun K hK => ?_) AllReadyH.nil
              refine step_append_new rfl rfl _ _ 26 rfl (R + 1) (.agg #[.int .u32 0, .int .u32 0, .int .u32 0, .int .u32 0]) 4 16 Tryd.underlying26 info_dig rfl (by decide) _ j _ rfl hp0 1 rfl rfl (by simp [Value.oneCell']) (by omega) (by omega) hsz (by decide) ?_
              intro g1 c1 w3 hown1 hb1 hk1
              have h3 := h0'.above hb1
              have ho3 := own_keep ho0 hp0 (by decide) hk1
              refine hK.out _ _ (hS.out h3) (fun hHeld => ?_)
              clear hK K
              try simp only [Act.put, List.getElem_toArray, List.getElem_cons_succ, List.getElem_cons_zero, List.setIfInBounds_toArray, List.set_cons_zero, List.set_cons_succ]
              have t6 : w3.cell? ⟨R, 6, none⟩ = some v2 := h3.bx.cell 6
              have f6 := h3.bx.frozen 6
              have h4' : Rq w l b off R (rcl l v (.slice (some ⟨g1, 0, none⟩) (j + 1) c1)) (w3.setCell ⟨R, 6, none⟩ (.slice (some ⟨g1, 0, none⟩) (j + 1) c1)) := h3.set 6 _
              have ho4 := ownsRow_setCell_below (a := ⟨R, 6, none⟩) ho3 (Nat.lt_succ_self _) (.slice (some ⟨g1, 0, none⟩) (j + 1) c1)
              have hp4 : (w3.setCell ⟨R, 6, none⟩ (.slice (some ⟨g1, 0, none⟩) (j + 1) c1)).ownsRow (R + 1) 24 4 (.slice (some ⟨g1, 0, none⟩) (j + 1) c1) (j + 1) (((dsW l (lg l 6).toNat (j + 1)).flatMap dgL).map wv) := by rw [dsW_snoc, List.flatMap_append, List.map_append, HP.out]; exact ownsRow_setCell_below (a := ⟨R, 6, none⟩) hown1 (Nat.lt_succ_self _) _
              clear h3 hown1 hb1 hk1 hL v6 v6' h0' ho0 hp0 ho3
              refine wpAnyH_take (i := 24) (v := ?_) rfl (by kernel_rfl) (by kernel_rfl) (by kernel_rfl) (fun _ _ _ h => h) (Or.inl ⟨by kernel_rfl, ?_⟩) (by assumption) ?_
              rotate_left
              · intro w hSw; obtain ⟨s0, s1, s2, s3⟩ := hSw; go_simp; (try with_reducible rfl)
              try simp only [Act.put, List.getElem_toArray, List.getElem_cons_succ, List.getElem_cons_zero, List.setIfInBounds_toArray, List.set_cons_zero, List.set_cons_succ]
              refine wpAnyH_ready (rs := [25]) (by kernel_rfl) (by simp) ?_
              refine AllReadyH.cons rfl (fun K hK => ?_) AllReadyH.nil
              go_simp
              refine hK.out _ _ (hS.out h4') (fun hHeld => ?_)
              clear hK K
              try simp only [Act.put, List.getElem_toArray, List.getElem_cons_succ, List.getElem_cons_zero, List.setIfInBounds_toArray, List.set_cons_zero, List.set_cons_succ]
              refine wpAnyH_done (by kernel_rfl) ?_ _
              generalize World.setCell w3 _ _ = w4 at h4' ho4 hp4 ⊢
              have H4 := Lib.hid h4'
              have HO4 := Lib.hid ho4
              have HP4 := Lib.hid hp4
              clear h4' ho4 hp4 t6 f6 hHeld hS
              go_wp2_with fail
              go_roundw
              case rel => exact ⟨j + 1, _, hlt, by go_num, H4.out, HO4.out, HP4.out⟩
              case measure => simp [intOf]; omega
            · go_simp
              refine hK.out _ _ (hS.out hL) (fun hHeld => ?_)
              clear hK K
              try simp only [Act.put, List.getElem_toArray, List.getElem_cons_succ, List.getElem_cons_zero, List.setIfInBounds_toArray, List.set_cons_zero, List.set_cons_succ]
              refine wpAnyH_ready (rs := [1]) (by kernel_rfl) (by simp) ?_
              refine AllReadyH.cons rfl (fun K hK => ?_) AllReadyH.nil
              go_simp
              refine hK.out _ _ (hS.out hL) (fun hHeld => ?_)
              clear hK K
              try simp only [Act.put, List.getElem_toArray, List.getElem_cons_succ, List.getElem_cons_zero, List.setIfInBounds_toArray, List.set_cons_zero, List.set_cons_succ]
              refine wpAnyH_ready (rs := [23]) (by kernel_rfl) (by simp) ?_
              refine AllReadyH.cons rfl (fun K hK => ?_) AllReadyH.nil
              refine step_append_new rfl rfl _ _ 26 rfl (R + 1) (.agg #[.int .u32 0, .int .u32 0, .int .u32 0, .int .u32 0]) 4 16 Tryd.underlying26 info_dig rfl (by decide) _ j _ rfl hp0 1 rfl rfl (by simp [Value.oneCell']) (by omega) (by omega) hsz (by decide) ?_
              intro g1 c1 w3 hown1 hb1 hk1
              have h3 := h0'.above hb1
              have ho3 := own_keep ho0 hp0 (by decide) hk1
              refine hK.out _ _ (hS.out h3) (fun hHeld => ?_)
              clear hK K
              try simp only [Act.put, List.getElem_toArray, List.getElem_cons_succ, List.getElem_cons_zero, List.setIfInBounds_toArray, List.set_cons_zero, List.set_cons_succ]
              have t6 : w3.cell? ⟨R, 6, none⟩ = some v2 := h3.bx.cell 6
              have f6 := h3.bx.frozen 6
              have h4' : Rq w l b off R (rcl l v (.slice (some ⟨g1, 0, none⟩) (j + 1) c1)) (w3.setCell ⟨R, 6, none⟩ (.slice (some ⟨g1, 0, none⟩) (j + 1) c1)) := h3.set 6 _
              have ho4 := ownsRow_setCell_below (a := ⟨R, 6, none⟩) ho3 (Nat.lt_succ_self _) (.slice (some ⟨g1, 0, none⟩) (j + 1) c1)
              have hp4 : (w3.setCell ⟨R, 6, none⟩ (.slice (some ⟨g1, 0, none⟩) (j + 1) c1)).ownsRow (R + 1) 24 4 (.slice (some ⟨g1, 0, none⟩) (j + 1) c1) (j + 1) (((dsW l (lg l 6).toNat (j + 1)).flatMap dgL).map wv) := by rw [dsW_snoc, List.flatMap_append, List.map_append, HP.out]; exact ownsRow_setCell_below (a := ⟨R, 6, none⟩) hown1 (Nat.lt_succ_self _) _
              clear h3 hown1 hb1 hk1 hL v6 v6' h0' ho0 hp0 ho3
              refine wpAnyH_take (i := 24) (v := ?_) rfl (by kernel_rfl) (by kernel_rfl) (by kernel_rfl) (fun _ _ _ h => h) (Or.inl ⟨by kernel_rfl, ?_⟩) (by assumption) ?_
              rotate_left
              · intro w hSw; obtain ⟨s0, s1, s2, s3⟩ := hSw; go_simp; (try with_reducible rfl)
              try simp only [Act.put, List.getElem_toArray, List.getElem_cons_succ, List.getElem_cons_zero, List.setIfInBounds_toArray, List.set_cons_zero, List.set_cons_succ]
              refine wpAnyH_ready (rs := [25]) (by kernel_rfl) (by simp) ?_
              refine AllReadyH.cons rfl (fun K hK => ?_) AllReadyH.nil
              go_simp
              refine hK.out _ _ (hS.out h4') (fun hHeld => ?_)
              clear hK K
              try simp only [Act.put, List.getElem_toArray, List.getElem_cons_succ, List.getElem_cons_zero, List.setIfInBounds_toArray, List.set_cons_zero, List.set_cons_succ]
              refine wpAnyH_done (by kernel_rfl) ?_ _
              generalize World.setCell w3 _ _ = w4 at h4' ho4 hp4 ⊢
              have H4 := Lib.hid h4'
              have HO4 := Lib.hid ho4
              have HP4 := Lib.hid hp4
              clear h4' ho4 hp4 t6 f6 hHeld hS
              go_wp2_with fail
              go_roundw
              case rel => exact ⟨j + 1, _, hlt, by go_num, H4.out, HO4.out, HP4.out⟩
              case measure => simp [intOf]; omega
          · have hjM : j = M := by omega
            subst hjM
            obtain ⟨A1, c1, rfl, -, -, hs1⟩ := Sl.of_own ho
            obtain ⟨A2, c2, rfl⟩ : ∃ A c, v2 = .slice A j c := by
              rcases ho2.2 with ⟨rfl, rfl⟩ | ⟨g, cap, cur, rfl, _⟩
              · exact ⟨none, 0, rfl⟩
              · exact ⟨_, _, rfl⟩
            obtain ⟨bb, hbb⟩ : ∃ b, rightR (lg l 0).toNat (imW l) (psW l (lg l 6).toNat) j (lg l 5).toNat = b := ⟨_, rfl⟩
            have kr := refR_Right ((lg l 0).toNat : Int) (imW l) A1 A2 (psW l (lg l 6).toNat) c1 j c2 ((lg l 5).toNat : Int) wr (by rw [psW_len]; exact hs1) (by rw [psW_len]; omega) (by omega)
            rw [psW_len, hbb] at kr
            have KR := Lib.hid kr
            have HBB := Lib.hid hbb
            have HQ := Lib.hid h
            have HO1 := Lib.hid ho
            have HO2 := Lib.hid ho2
            have hbx : Blk wr R 28 #[.int .i64 (lg l 0).toNat, .int .u32 (imW l 0).toNat, .int .u32 (imW l 1).toNat, .int .u32 (imW l 2).toNat, .int .u32 (imW l 3).toNat, .slice A1 (lg l 6).toNat c1, .slice A2 j c2, .int .i64 (lg l 5).toNat] := h.bx
            obtain ⟨⟨x0, x1, x2, x3, x4, x5, x6, x7⟩, -⟩ := hbx.all8
            clear kr hbb hs1 h ho ho2 hbx
            go_wp2_with fail
            refine KR.out.mono ?_
            rintro e w8 ⟨rfl, hb8⟩
            have h8' := HQ.out.below hb8
            have HQ8 := Lib.hid h8'
            have hz8 := h8'.zblk
            have hB8' := h8'.h.bel
            have HZ8 := Lib.hid hz8
            have HB8 := Lib.hid hB8'
            have hlt8 := h8'.lt
            have hbx : Blk w8 R 28 #[.int .i64 (lg l 0).toNat, .int .u32 (imW l 0).toNat, .int .u32 (imW l 1).toNat, .int .u32 (imW l 2).toNat, .int .u32 (imW l 3).toNat, .slice A1 (lg l 6).toNat c1, .slice A2 j c2, .int .i64 (lg l 5).toNat] := h8'.bx
            clear x0 x1 x2 x3 x4 x5 x6 x7
            obtain ⟨⟨x0, x1, x2, x3, x4, x5, x6, x7⟩, -⟩ := hbx.all8
            obtain ⟨⟨z0, z1, z2, z3, z4, z5, z6, z7⟩, y0, y1, y2, y3, y4, y5, y6, y7⟩ := hz8.all8
            clear h8' hz8 hB8' hbx
            cases bb with
            | false =>
              have HBad : Hid (∀ (t : Int) (I : Nat → UInt32) (ps : List Int) (ds : List (Nat → UInt32)) (f : Int), rightR t I ps ds.length f = true → wordsR t I ps ds f ≠ l) := fun t I ps ds f hr e => by have := (words_in hr e).2.2.2.2.2.2.2.2; rw [HM.out, HBB.out] at this; cases this
              go_wp2_with fail
              obtain ⟨W8, hW8, hz9, hb9, -⟩ := HZ8.out.out8 HB8.out (Nat.le_refl _) (.int .i64 0) (.int .u32 0) (.int .u32 0) (.int .u32 0) (.int .u32 0) (.slice none 0 0) (.slice none 0 0) (.int .i64 0)
              rw [← hW8]
              clear hW8
              refine bodyPost_ret (resT_row Tryd.results17 _ W8 w.heap.size _ _ rfl hz9 Tryd.underlying28 rfl (by kernel_rfl)) rfl ?_
              exact ⟨.inr ⟨rfl, HBad.out⟩, hb9⟩
            | true =>
              go_wp2_with fail
              obtain ⟨W8, hW8, hz9, hb9, hk9⟩ := HZ8.out.out8 HB8.out (Nat.le_refl _) (.int .i64 (lg l 0).toNat) (.int .u32 (imW l 0).toNat) (.int .u32 (imW l 1).toNat) (.int .u32 (imW l 2).toNat) (.int .u32 (imW l 3).toNat) (.slice A1 (lg l 6).toNat c1) (.slice A2 j c2) (.int .i64 (lg l 5).toNat)
              rw [← hW8]
              clear hW8
              have o1 := own_other (own_below HO1.out rfl hb8) hk9 (by omega)
              have o2 := own_other (own_below HO2.out rfl hb8) hk9 (by omega)
              refine bodyPost_ret (resT_row Tryd.results17 _ W8 w.heap.size _ _ rfl hz9 Tryd.underlying28 rfl (by kernel_rfl)) rfl ?_
              have eds : (dsW l (lg l 6).toNat j).length = j := dsW_len _ _ _
              refine ⟨.inl ⟨(lg l 0).toNat, imW l, psW l (lg l 6).toNat, dsW l (lg l 6).toNat j, (lg l 5).toNat, A1, A2, c1, c2, by rw [psW_len, eds]; rfl, words_of HLEN.out rfl HM.out, by rw [eds]; exact HBB.out, ?_, Sd.of_own o2⟩, hb9⟩
              rw [psW_len]
              obtain ⟨A', c', e, _, _, h⟩ := Sl.of_own o1
              injection e with e _ _
              subst e
              exact h
      · have hne2 : ((l.length : Int) != 8 + ((lg l 6).toNat : Int) + 4 * (M : Int)) = true := by rw [bne_iff_ne]; omega
        have HZ := Lib.hid h.zblk
        have HB := Lib.hid h.h.bel
        obtain ⟨⟨z0, z1, z2, z3, z4, z5, z6, z7⟩, y0, y1, y2, y3, y4, y5, y6, y7⟩ := HZ.out.all8
        have HBad : Hid (∀ (t : Int) (I : Nat → UInt32) (ps : List Int) (ds : List (Nat → UInt32)) (f : Int), rightR t I ps ds.length f = true → wordsR t I ps ds f ≠ l) := fun t I ps ds f hr e => by have := (words_in hr e).2.2.2.2.2.2.2.1; rw [HM.out] at this; omega
        clear h ho
        go_wp2_with fail
        obtain ⟨W8, hW8, hz8, hb8, -⟩ := HZ.out.out8 HB.out (Nat.le_refl _) (.int .i64 0) (.int .u32 0) (.int .u32 0) (.int .u32 0) (.int .u32 0) (.slice none 0 0) (.slice none 0 0) (.int .i64 0)
        rw [← hW8]
        clear hW8
        refine bodyPost_ret (resT_row Tryd.results17 _ W8 w.heap.size _ _ rfl hz8 Tryd.underlying28 rfl (by kernel_rfl)) rfl ?_
        exact ⟨.inr ⟨rfl, HBad.out⟩, hb8⟩
end Go.Proofs.YtdkkomcokefkhaaDoor
