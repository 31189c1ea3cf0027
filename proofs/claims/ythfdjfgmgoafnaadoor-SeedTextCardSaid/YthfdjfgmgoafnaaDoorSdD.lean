/- Layer 50: the document's machine: the code decoded, walked. -/
import Derived.Laws.MakeOwn
import Derived.Test.YthfdjfgmgoafnaaDoorSdB
import Derived.Test.YthfdjfgmgoafnaaDoorInH
namespace Go.Proofs.YthfdjfgmgoafnaaDoor
open Go.RowKit

/-- The seed's words. -/
def seedW : List UInt32 := seedP.map fun (op, a, b, c) => UInt32.ofNat (op * 16777216 + a * 1048576 + b * 65536 + c)
theorem seedW_len : seedW.length = 34 := by decide
theorem seedW_dec : ∀ k, k < 34 → decB (seedW.getD k 0) = true := by decide +kernel
def sameI (q : Nat × Nat × Nat × Nat) (x : UInt32) : Bool := decide (opD x = q.1) && decide (aD x = q.2.1) && decide (bD x = q.2.2.1) && decide (cD x = q.2.2.2)
theorem seedW_parts : ∀ k, k < 34 → sameI (seedP.getD k (0, 0, 0, 0)) (seedW.getD k 0) = true := by decide +kernel
theorem run_make34 (P : Program) (w : World) (t e : TypeId) (z : Value) (size bytes : Nat) (ht : P.underlying t = some (.slice e)) (hinfo : (P.info? e).map (fun i => (i.zero, i.size, i.bytes)) = some (some z, size, bytes)) (hb : bytes ≤ 1000) :
    (Instr.makeSlice t (.int .i64 34) (.int .i64 34)).run P w = .ok (.slice (some ⟨w.heap.size, 0, none⟩) 34 34) (w.alloc (.cells (madeCells z.cells (34 * size)) e)) := by
  obtain ⟨i, hi, h1, h2, h3⟩ := info_parts hinfo
  have h := run_make (P := P) w t e i z ht hi h1 .i64 .i64 34 34 (by decide) (by decide) (by rw [h3]; omega) (by decide)
  rw [h2] at h
  exact h
theorem seed_word {j : Nat} (hj : j < 34) : ∃ op a b d : Nat, seedP[j]? = some (op, a, b, d) ∧ Hid (opD (seedW[j]'(by rw [seedW_len]; exact hj)) = op ∧ aD (seedW[j]'(by rw [seedW_len]; exact hj)) = a ∧ bD (seedW[j]'(by rw [seedW_len]; exact hj)) = b ∧ cD (seedW[j]'(by rw [seedW_len]; exact hj)) = d ∧ decB (seedW[j]'(by rw [seedW_len]; exact hj)) = true) := by
  have hl : j < seedW.length := by rw [seedW_len]; exact hj
  have hp : j < seedP.length := hj
  have h1 := seedW_dec j hj
  have h2 := seedW_parts j hj
  rw [List.getD_eq_getElem?_getD, List.getElem?_eq_getElem hl] at h1
  rw [List.getD_eq_getElem?_getD, List.getElem?_eq_getElem hp, List.getD_eq_getElem?_getD, List.getElem?_eq_getElem hl] at h2
  unfold sameI at h2
  simp only [Option.getD_some, Bool.and_eq_true, decide_eq_true_eq] at h1 h2
  exact ⟨_, _, _, _, List.getElem?_eq_getElem hp, h2.1.1.1, h2.1.1.2, h2.1.2, h2.2, h1⟩
/-- The code's decoding, up to the i-th word. -/
structure Cd (w : World) (A : Option Addr) (c i : Nat) (W : World) : Prop where
  m : Blk W w.heap.size 25 #[.slice A 34 c, .int .i64 0]
  l : ∃ arr, Blk W (w.heap.size + 1) 49 arr ∧ arr.size = 136 ∧ ∀ (k op a b c : Nat), k < i → seedP[k]? = some (op, a, b, c) → arr[k * 4]? = some (.int .i64 op) ∧ arr[k * 4 + 1]? = some (.int .i64 a) ∧ arr[k * 4 + 2]? = some (.int .i64 b) ∧ arr[k * 4 + 3]? = some (.int .i64 c)
  o : ∃ arr, Blk W (w.heap.size + 1 + 1) 4 arr ∧ arr.size = 34 ∧ ∀ k, k < i → arr[k]? = some (.bool true)
  bel : Below w.heap.size w W
section
variable {w W W' : World} {A : Option Addr} {c i : Nat}
theorem Cd.lt (h : Cd w A c i W) : w.heap.size + 3 ≤ W.heap.size := by obtain ⟨_, hB, _⟩ := h.o; exact hB.lt
theorem Cd.below (h : Cd w A c i W) (hb : Below W.heap.size W W') : Cd w A c i W' := by
  obtain ⟨a1, l1, r1⟩ := h.l
  obtain ⟨a2, l2, r2⟩ := h.o
  exact ⟨h.m.below hb h.m.lt, ⟨a1, l1.below hb l1.lt, r1⟩, ⟨a2, l2.below hb l2.lt, r2⟩, h.bel.trans (hb.mono h.bel.size)⟩
theorem Cd.alloc (h : Cd w A c i W) (x : Obj) : Cd w A c i (W.alloc x) := h.below ((Below.refl _ W).alloc (Nat.le_refl _) x)
theorem Cd.cells (h : Cd w A c i W) (hi : i < 34) : ∃ v0 v1 v2 v3 v4, (W.cell? ⟨w.heap.size + 1, i * 4, none⟩ = some v0 ∧ W.cell? ⟨w.heap.size + 1, i * 4 + 1, none⟩ = some v1 ∧ W.cell? ⟨w.heap.size + 1, i * 4 + 2, none⟩ = some v2 ∧ W.cell? ⟨w.heap.size + 1, i * 4 + 3, none⟩ = some v3 ∧ W.cell? ⟨w.heap.size + 1 + 1, i, none⟩ = some v4) ∧
    (W.frozen? ⟨w.heap.size + 1, i * 4, none⟩ = false ∧ W.frozen? ⟨w.heap.size + 1, i * 4 + 1, none⟩ = false ∧ W.frozen? ⟨w.heap.size + 1, i * 4 + 2, none⟩ = false ∧ W.frozen? ⟨w.heap.size + 1, i * 4 + 3, none⟩ = false ∧ W.frozen? ⟨w.heap.size + 1 + 1, i, none⟩ = false) ∧
    W.cell? ⟨w.heap.size, 0, none⟩ = some (.slice A 34 c) := by
  obtain ⟨a1, l1, s1, _⟩ := h.l
  obtain ⟨a2, l2, s2, _⟩ := h.o
  exact ⟨a1[i * 4], a1[i * 4 + 1], a1[i * 4 + 2], a1[i * 4 + 3], a2[i], ⟨(l1.cell _).trans (Array.getElem?_eq_getElem (by omega)), (l1.cell _).trans (Array.getElem?_eq_getElem (by omega)), (l1.cell _).trans (Array.getElem?_eq_getElem (by omega)), (l1.cell _).trans (Array.getElem?_eq_getElem (by omega)), (l2.cell _).trans (Array.getElem?_eq_getElem (by omega))⟩,
    ⟨l1.frozen _, l1.frozen _, l1.frozen _, l1.frozen _, l2.frozen _⟩, h.m.cell 0⟩
theorem arr_set {arr : Array Value} {n j : Nat} (hn : n < arr.size) (v : Value) : (arr.setIfInBounds n v)[j]? = if j = n then some v else arr[j]? := by
  by_cases e : j = n
  · subst e; rw [if_pos rfl, Array.getElem?_setIfInBounds_self_of_lt hn]
  · rw [if_neg e, Array.getElem?_setIfInBounds_ne (fun h => e h.symm)]
theorem Cd.put (h : Cd w A c i W) (hi : i < 34) {op a b d : Nat} (hq : seedP[i]? = some (op, a, b, d)) :
    Cd w A c (i + 1) (((((W.setCell ⟨w.heap.size + 1, i * 4, none⟩ (.int .i64 op)).setCell ⟨w.heap.size + 1, i * 4 + 1, none⟩ (.int .i64 a)).setCell ⟨w.heap.size + 1, i * 4 + 2, none⟩ (.int .i64 b)).setCell ⟨w.heap.size + 1, i * 4 + 3, none⟩ (.int .i64 d)).setCell ⟨w.heap.size + 1 + 1, i, none⟩ (.bool true)) := by
  obtain ⟨a1, l1, s1, r1⟩ := h.l
  obtain ⟨a2, l2, s2, r2⟩ := h.o
  have g1 : w.heap.size + 1 ≠ w.heap.size + 1 + 1 := by omega
  refine ⟨?_, ⟨_, ((((l1.set (i * 4) _).set (i * 4 + 1) _).set (i * 4 + 2) _).set (i * 4 + 3) _).far (p := ⟨w.heap.size + 1 + 1, i, none⟩) g1 _, by simp only [Array.size_setIfInBounds]; exact s1, ?_⟩, ⟨_, (((((l2.far (p := ⟨w.heap.size + 1, i * 4, none⟩) (Ne.symm g1) _).far (p := ⟨w.heap.size + 1, i * 4 + 1, none⟩) (Ne.symm g1) _).far (p := ⟨w.heap.size + 1, i * 4 + 2, none⟩) (Ne.symm g1) _).far (p := ⟨w.heap.size + 1, i * 4 + 3, none⟩) (Ne.symm g1) _).set i _), by simp only [Array.size_setIfInBounds]; exact s2, ?_⟩, ?_⟩
  · have q := fun (W : World) (g o : Nat) (hg : w.heap.size ≠ g) (v : Value) => Below.heap_setCell W ⟨g, o, none⟩ v w.heap.size hg
    unfold Blk
    rw [q _ _ _ (by omega), q _ _ _ (by omega), q _ _ _ (by omega), q _ _ _ (by omega), q _ _ _ (by omega)]
    exact h.m
  · intro k op' a' b' d' hk hq'
    have z1 : ∀ (x y z : Value), ((a1.setIfInBounds (i * 4) x).setIfInBounds (i * 4 + 1) y).size = 136 := by intros; simp only [Array.size_setIfInBounds]; exact s1
    by_cases e : k = i
    · subst e
      rw [hq] at hq'
      injection hq' with hq'
      injection hq' with e1 hq'
      injection hq' with e2 hq'
      injection hq' with e3 e4
      subst e1 e2 e3 e4
      refine ⟨?_, ?_, ?_, ?_⟩
      all_goals
        rw [arr_set (by simp only [Array.size_setIfInBounds]; omega), arr_set (by simp only [Array.size_setIfInBounds]; omega), arr_set (by simp only [Array.size_setIfInBounds]; omega), arr_set (by omega)]
        repeat (first | rw [if_pos (by omega)] | rw [if_neg (by omega)])
    · obtain ⟨x0, x1, x2, x3⟩ := r1 k op' a' b' d' (by omega) hq'
      refine ⟨?_, ?_, ?_, ?_⟩
      all_goals
        rw [arr_set (by simp only [Array.size_setIfInBounds]; omega), arr_set (by simp only [Array.size_setIfInBounds]; omega), arr_set (by simp only [Array.size_setIfInBounds]; omega), arr_set (by omega)]
        rw [if_neg (by omega), if_neg (by omega), if_neg (by omega), if_neg (by omega)]
        assumption
  · intro k hk
    rw [arr_set (by omega)]
    by_cases e : k = i
    · rw [if_pos e]
    · rw [if_neg e]; exact r2 k (by omega)
  · have b := h.bel
    exact ((((b.setCell (p := ⟨w.heap.size + 1, i * 4, none⟩) (Nat.le_succ _) _).setCell (p := ⟨w.heap.size + 1, i * 4 + 1, none⟩) (Nat.le_succ _) _).setCell (p := ⟨w.heap.size + 1, i * 4 + 2, none⟩) (Nat.le_succ _) _).setCell (p := ⟨w.heap.size + 1, i * 4 + 3, none⟩) (Nat.le_succ _) _).setCell (p := ⟨w.heap.size + 1 + 1, i, none⟩) (Nat.le_add_right _ 2) _
end
theorem Cd.new (w : World) (A : Option Addr) (c : Nat) : Cd w A c 0 (((w.alloc (.cells #[.slice A 34 c, .int .i64 0] 25)).alloc (.cells (madeCells (Value.agg #[.int .i64 0, .int .i64 0, .int .i64 0, .int .i64 0]).cells (34 * 4)) 49)).alloc (.cells (madeCells (Value.bool false).cells (34 * 1)) 4)) := by
  refine ⟨((Blk.new w _ _).alloc _).alloc _, ⟨madeCells (Value.agg #[.int .i64 0, .int .i64 0, .int .i64 0, .int .i64 0]).cells (34 * 4), ?_, size_madeCells _ _, fun k _ _ _ _ h => absurd h (Nat.not_lt_zero _)⟩, ⟨madeCells (Value.bool false).cells (34 * 1), ?_, size_madeCells _ _, fun k h => absurd h (Nat.not_lt_zero _)⟩, (((Below.refl _ w).alloc (Nat.le_refl _) _).alloc (by simp) _).alloc (by simp; omega) _⟩
  · have h := (Blk.new (w.alloc (.cells #[.slice A 34 c, .int .i64 0] 25)) 49 (madeCells (Value.agg #[.int .i64 0, .int .i64 0, .int .i64 0, .int .i64 0]).cells (34 * 4))).alloc (.cells (madeCells (Value.bool false).cells (34 * 1)) 4)
    simpa using h
  · have h := Blk.new ((w.alloc (.cells #[.slice A 34 c, .int .i64 0] 25)).alloc (.cells (madeCells (Value.agg #[.int .i64 0, .int .i64 0, .int .i64 0, .int .i64 0]).cells (34 * 4)) 49)) 4 (madeCells (Value.bool false).cells (34 * 1))
    simpa using h

set_option maxHeartbeats 2000000 in
theorem ref_Code (A : Option Addr) (c : Nat) (w : World) (hA : Sl w w.heap.size A 34 (seedW.map wv)) :
    Calls Tryd.prog 78 #[.agg #[.slice A 34 c, .int .i64 0]] w fun e w' => e = .returned (.tuple #[.slice (some ⟨w.heap.size + 1, 0, none⟩) 34 34, .slice (some ⟨w.heap.size + 1 + 1, 0, none⟩) 34 34]) ∧ Cd w A c 34 w' := by
  have k1 : ∀ W : World, (Instr.makeSlice 120 (.int .i64 34) (.int .i64 34)).run Tryd.prog W = .ok (.slice (some ⟨W.heap.size, 0, none⟩) 34 34) (W.alloc (.cells (madeCells (Value.agg #[.int .i64 0, .int .i64 0, .int .i64 0, .int .i64 0]).cells (34 * 4)) 49)) :=
    fun W => run_make34 _ W _ _ _ _ 32 Tryd.underlying120 (by kernel_rfl) (by decide)
  have k2 : ∀ W : World, (Instr.makeSlice 121 (.int .i64 34) (.int .i64 34)).run Tryd.prog W = .ok (.slice (some ⟨W.heap.size, 0, none⟩) 34 34) (W.alloc (.cells (madeCells (Value.bool false).cells (34 * 1)) 4)) :=
    fun W => run_make34 _ W _ _ _ _ 1 Tryd.underlying121 (by kernel_rfl) (by decide)
  have hM : (w.alloc (.cells #[.slice A 34 c, .int .i64 0] 25)).cell? ⟨w.heap.size, 0, none⟩ = some (.slice A 34 c) := World.cell?_alloc_mark _ _ _ _ _
  have HA := Lib.hid hA
  clear hA
  go_enter Tryd.func78, Tryd.ntmps78
  go_wp2_with fail
  have h0 : Cd w A c 0 _ := Cd.new w A c
  go_loopw [6] (fun i wr => ∃ j : Nat, j ≤ 34 ∧ i = .int .i64 j ∧ Cd w A c j wr) (fun i _ => 34 - (intOf i).toNat)
  case atStart => exact ⟨0, Nat.zero_le _, rfl, h0⟩
  case round =>
    clear h0 hM
    obtain ⟨j, hj, rfl, h⟩ := hrel
    by_cases hlt : j < 34
    · obtain ⟨op, a, b, d, hq, hw⟩ := seed_word hlt
      obtain ⟨u0, off, hAA, hb0, hcell⟩ := Sl.word (HA.out) (k := j) (by rw [seedW_len]; exact hlt)
      have hc1 := (h.bel.cell (p := ⟨u0, off + j, none⟩) hb0).trans hcell
      obtain ⟨v0, v1, v2, v3, v4, ⟨-, -, -, -, -⟩, -, m0⟩ := h.cells hlt
      have hjI : (j : Int) < 34 := by omega
      have hj0 : (0 : Int) ≤ j := by omega
      have H := Lib.hid h
      have HQ := Lib.hid hq
      subst hAA
      clear h hq hcell
      generalize seedW[j] = x at hc1 hw
      have K : Hid (∀ W : World, Calls Tryd.prog 82 #[.int .u32 x.toNat] W fun e w' => e = .returned (.tuple #[.agg #[.int .i64 op, .int .i64 a, .int .i64 b, .int .i64 d], .int .i64 0]) ∧ Below W.heap.size W w') := by
        intro W
        obtain ⟨e1, e2, e3, e4, e5⟩ := hw.out
        have k := ref_Decode_ok x W e5
        rw [e1, e2, e3, e4] at k
        exact k
      clear hw
      go_wp2_with fail
      refine (K.out _).mono ?_
      rintro e w1 ⟨rfl, hb1⟩
      have h1 := (H.out.below hb1).alloc (.cells #[.int .i64 op, .int .i64 a, .int .i64 b, .int .i64 d] 49)
      obtain ⟨v0, v1, v2, v3, v4, ⟨c0, c1, c2, c3, c4⟩, ⟨f0, f1, f2, f3, f4⟩, -⟩ := h1.cells hlt
      have hz1 := h1.lt
      have h2 := Lib.hid (h1.put hlt HQ.out)
      have hI := (Blk.new w1 49 #[.int .i64 op, .int .i64 a, .int .i64 b, .int .i64 d])
      have i0 := hI.cell 0
      have i1 := hI.cell 1
      have i2 := hI.cell 2
      have i3 := hI.cell 3
      clear hb1 m0 hc1 H h1 hI
      go_wp2_with fail
      go_roundw
      case rel => exact ⟨j + 1, hlt, rfl, h2.out⟩
      case measure => simp [intOf]; omega
    · obtain rfl : j = 34 := by omega
      have m0 := h.m.cell 0
      have H := Lib.hid h
      clear h
      go_wp2_with fail
      go_returns
      exact ⟨rfl, H.out⟩
/-- What is left of it: the code, whole. -/
theorem Cd.at_end {w W : World} {A : Option Addr} {c : Nat} (h : Cd w A c 34 W) : CodeAt (w.heap.size + 1) W ∧ OkAt (w.heap.size + 1 + 1) W := by
  obtain ⟨a1, l1, s1, r1⟩ := h.l
  obtain ⟨a2, l2, s2, r2⟩ := h.o
  refine ⟨fun k op a b d hq => ?_, fun k hk => (l2.cell k).trans (r2 k hk)⟩
  have hk : k < 34 := (List.getElem?_eq_some_iff.1 hq).1
  obtain ⟨x0, x1, x2, x3⟩ := r1 k op a b d hk hq
  exact ⟨(l1.cell _).trans x0, (l1.cell _).trans x1, (l1.cell _).trans x2, (l1.cell _).trans x3⟩
end Go.Proofs.YthfdjfgmgoafnaaDoor
