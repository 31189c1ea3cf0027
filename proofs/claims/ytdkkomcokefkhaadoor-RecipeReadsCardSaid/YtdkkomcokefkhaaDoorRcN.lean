/- Layer 37: words taken from the front of a list (the program's taker), walked. -/
/- Layer 37: a digest taken (the closure in Read), walked. -/
/- Layer 37, plain: a recipe read word by word; what is read is what was put. -/
import Derived.Test.YtdkkomcokefkhaaDoorRcP
namespace Go.Proofs.YtdkkomcokefkhaaDoor
open Go.RowKit

/-- What is left, and whether there was none: behind one word more, and the word. -/
def tkW : List UInt32 × Bool → UInt32 × (List UInt32 × Bool)
  | ([], _) => (0, ([], true))
  | (x :: r, b) => (x, (r, b))
/-- A step that changes block T alone. -/
structure Only (T : Nat) (w w' : World) : Prop where
  bel : Below T w w'
  same : ∀ k, k < w.heap.size → k ≠ T → w'.heap[k]? = w.heap[k]?
theorem Only.refl (T : Nat) (w : World) : Only T w w := ⟨Below.refl _ _, fun _ _ _ => rfl⟩
theorem Only.trans {T : Nat} {a b c : World} (h : Only T a b) (k : Only T b c) : Only T a c := ⟨h.bel.trans k.bel, fun i hi hne => (k.same i (Nat.lt_of_lt_of_le hi h.bel.size) hne).trans (h.same i hi hne)⟩
theorem Only.set {T : Nat} {a w : World} (h : Only T a w) (o : Nat) (u : Value) : Only T a (w.setCell ⟨T, o, none⟩ u) := ⟨h.bel.setCell (p := ⟨T, o, none⟩) (Nat.le_refl _) u, fun k hk hne => (Below.heap_setCell w ⟨T, o, none⟩ u k hne).trans (h.same k hk hne)⟩
theorem Only.alloc {T : Nat} {a w : World} (h : Only T a w) (hT : T ≤ w.heap.size) (o : Obj) : Only T a (w.alloc o) := ⟨h.bel.alloc hT o, fun k hk hne => (Below.heap_alloc w o k (Nat.lt_of_lt_of_le hk h.bel.size)).trans (h.same k hk hne)⟩
theorem Blk.only {T g : Nat} {w w' : World} {t : TypeId} {cs : Array Value} (h : Blk w g t cs) (ho : Only T w w') (hne : g ≠ T) : Blk w' g t cs := (ho.same g h.lt hne).trans h
theorem own_only {T : Nat} {w w' : World} {B E sz n : Nat} {v : Value} {xs : List Value} (h : w.ownsRow B E sz v n xs) (ho : Only T w w') (hB : T < B) : w'.ownsRow B E sz v n xs := by
  refine ⟨h.1, ?_⟩
  rcases h.2 with h2 | ⟨g, cap, cur, hv, hg, hh, r⟩
  · exact .inl h2
  · exact .inr ⟨g, cap, cur, hv, hg, (ho.same g (Array.getElem?_eq_some_iff.1 hh).1 (by omega)).trans hh, r⟩

/-- The taker's block. -/
def Tkr (w : World) (T : Nat) (st : List UInt32 × Bool) : Prop := ∃ A c, Blk w T 53 #[.slice A st.1.length c, .bool st.2] ∧ Sl w T A st.1.length (st.1.map wv) ∧ st.1.length ≤ c ∧ c ≤ maxLen
theorem Tkr.below {w w' : World} {T : Nat} {st : List UInt32 × Bool} (h : Tkr w T st) (hb : Below (T + 1) w w') : Tkr w' T st := by
  obtain ⟨A, c, h1, h2, h3⟩ := h
  exact ⟨A, c, h1.below hb (Nat.lt_succ_self _), h2.below (hb.mono (Nat.le_succ _)), h3⟩
theorem Tkr.lt {w : World} {T : Nat} {st : List UInt32 × Bool} (h : Tkr w T st) : T < w.heap.size := by
  obtain ⟨A, c, h1, _⟩ := h
  exact h1.lt
/-- Behind the front of a slice. -/
theorem Sl.tail {w : World} {B : Nat} {b off n : Nat} {u : Value} {xs : List Value} (h : Sl w B (some ⟨b, off, none⟩) (n + 1) (u :: xs)) : Sl w B (some ⟨b, off + 1, none⟩) n xs := by
  obtain ⟨h1, h2⟩ := h
  refine ⟨by simpa using h1, fun _ => ?_⟩
  obtain ⟨b', off', e, hb, hc⟩ := h2 (Nat.succ_pos _)
  injection e with e
  injection e with e1 e2 _
  subst e1 e2
  refine ⟨_, _, rfl, hb, fun i v hv => ?_⟩
  have := hc (i + 1) v (by simpa using hv)
  rw [show off + 1 + i = off + (i + 1) by omega]
  exact this

theorem taker_none (T : Nat) (b : Bool) (w : World) (h : Tkr w T ([], b)) :
    Calls Tryd.prog 30 #[.pointer (some ⟨T, 0, none⟩)] w fun e w' => e = .returned (.int .u32 0) ∧ Tkr w' T ([], true) ∧ Only T w w' := by
  obtain ⟨A, c, hB, hS, h1, h2⟩ := h
  have c0 : w.cell? ⟨T, 0, none⟩ = some (.slice A 0 c) := hB.cell 0
  have c1 : w.cell? ⟨T, 1, none⟩ = some (.bool b) := hB.cell 1
  have f1 := hB.frozen 1
  go_enter Tryd.func30, Tryd.ntmps30
  go_wp2_with fail
  go_returns
  exact ⟨rfl, ⟨A, c, hB.set 1 (.bool true), Sl.below hS ((Below.refl _ w).setCell (p := ⟨T, 1, none⟩) (Nat.le_refl _) _), h1, h2⟩, (Only.refl T w).set 1 _⟩
set_option maxHeartbeats 1000000 in
theorem taker_some (T : Nat) (x : UInt32) (r : List UInt32) (b : Bool) (w : World) (h : Tkr w T (x :: r, b)) :
    Calls Tryd.prog 30 #[.pointer (some ⟨T, 0, none⟩)] w fun e w' => e = .returned (.int .u32 x.toNat) ∧ Tkr w' T (r, b) ∧ Only T w w' := by
  obtain ⟨A, c, hB, hS, h1, h2⟩ := h
  obtain ⟨b0, off, hA, hlt, hcell⟩ := hS.2 (Nat.succ_pos _)
  subst hA
  have hx : w.cell? ⟨b0, off, none⟩ = some (.int .u32 x.toNat) := hcell 0 _ rfl
  have c0 : w.cell? ⟨T, 0, none⟩ = some (.slice (some ⟨b0, off, none⟩) (r.length + 1) c) := hB.cell 0
  have f0 := hB.frozen 0
  have h1' : r.length + 1 ≤ c := h1
  unfold maxLen at h2
  go_enter Tryd.func30, Tryd.ntmps30
  go_wp2_with fail
  · have h0 : c = 1 := by assumption
    have hr : r.length = 0 := by omega
    go_returns
    refine ⟨rfl, ⟨some ⟨b0, off, none⟩, 0, hB.set 0 _, ⟨by rw [List.length_map], fun h => absurd h (by rw [hr]; decide)⟩, by rw [hr]; exact Nat.le_refl _, by unfold maxLen; omega⟩, (Only.refl T w).set 0 _⟩
  · go_returns
    exact ⟨rfl, ⟨some ⟨b0, off + 1, none⟩, c - 1, hB.set 0 _, Sl.below (Sl.tail hS) ((Below.refl _ w).setCell (p := ⟨T, 0, none⟩) (Nat.le_refl _) _), by show r.length ≤ c - 1; omega, by unfold maxLen; omega⟩, (Only.refl T w).set 0 _⟩
theorem taker_word (T : Nat) (st : List UInt32 × Bool) (w : World) (h : Tkr w T st) :
    Calls Tryd.prog 30 #[.pointer (some ⟨T, 0, none⟩)] w fun e w' => e = .returned (.int .u32 (tkW st).1.toNat) ∧ Tkr w' T (tkW st).2 ∧ Only T w w' := by
  match st, h with
  | ([], b), h => exact taker_none T b w h
  | (x :: r, b), h => exact taker_some T x r b w h
end Go.Proofs.YtdkkomcokefkhaaDoor
namespace Go.Proofs.YtdkkomcokefkhaaDoor
open Go.RowKit

def mk4 (a b c d : UInt32) : Nat → UInt32
  | 0 => a
  | 1 => b
  | 2 => c
  | _ => d
/-- Four words taken. -/
def tkD (st : List UInt32 × Bool) : (Nat → UInt32) × (List UInt32 × Bool) :=
  (mk4 (tkW st).1 (tkW (tkW st).2).1 (tkW (tkW (tkW st).2).2).1 (tkW (tkW (tkW (tkW st).2).2).2).1, (tkW (tkW (tkW (tkW st).2).2).2).2)
/-- The closure's cell: the taker's method. -/
def Fnc (w : World) (C T : Nat) : Prop := Blk w C 54 #[.func (.func 30) #[.pointer (some ⟨T, 0, none⟩)] #[]]

structure D4 (w : World) (T C : Nat) (st : List UInt32 × Bool) (d : Array Value) (W : World) : Prop where
  tk : Tkr W T st
  fn : Fnc W C T
  dg : Blk W w.heap.size 24 d
  on : Only T w W
  hC : T < C
  hw : C < w.heap.size
section
variable {w W W' : World} {T C : Nat} {st st' : List UInt32 × Bool} {d : Array Value}
theorem D4.call (h : D4 w T C st d W) (hT : Tkr W' T st') (ho : Only T W W') : D4 w T C st' d W' :=
  have h1 := h.hC
  have h2 := h.hw
  ⟨hT, Blk.only h.fn ho (by omega), h.dg.only ho (by omega), h.on.trans ho, h.hC, h.hw⟩
theorem D4.set (h : D4 w T C st d W) (i : Nat) (v : Value) : D4 w T C st (d.setIfInBounds i v) (W.setCell ⟨w.heap.size, i, none⟩ v) :=
  have h1 := h.hC
  have h2 := h.hw
  ⟨h.tk.below ((Below.refl _ W).setCell (p := ⟨w.heap.size, i, none⟩) (by show T + 1 ≤ w.heap.size; omega) v), Blk.far h.fn (p := ⟨w.heap.size, i, none⟩) (by show C ≠ w.heap.size; omega) v, h.dg.set i v,
    ⟨h.on.bel.setCell (p := ⟨w.heap.size, i, none⟩) (by show T ≤ w.heap.size; omega) v, fun k hk hne => (Below.heap_setCell W ⟨w.heap.size, i, none⟩ v k (by show k ≠ w.heap.size; omega)).trans (h.on.same k hk hne)⟩, h.hC, h.hw⟩
end
theorem D4.facts {w W : World} {T C : Nat} {st : List UInt32 × Bool} {d0 d1 d2 d3 : Value} (h : D4 w T C st #[d0, d1, d2, d3] W) : W.cell? ⟨C, 0, none⟩ = some (.func (.func 30) #[.pointer (some ⟨T, 0, none⟩)] #[]) ∧
    (W.cell? ⟨w.heap.size, 0, none⟩ = some d0 ∧ W.cell? ⟨w.heap.size, 1, none⟩ = some d1 ∧ W.cell? ⟨w.heap.size, 2, none⟩ = some d2 ∧ W.cell? ⟨w.heap.size, 3, none⟩ = some d3) ∧
    (W.frozen? ⟨w.heap.size, 0, none⟩ = false ∧ W.frozen? ⟨w.heap.size, 1, none⟩ = false ∧ W.frozen? ⟨w.heap.size, 2, none⟩ = false ∧ W.frozen? ⟨w.heap.size, 3, none⟩ = false) :=
  ⟨Blk.cell h.fn 0, ⟨h.dg.cell 0, h.dg.cell 1, h.dg.cell 2, h.dg.cell 3⟩, h.dg.frozen 0, h.dg.frozen 1, h.dg.frozen 2, h.dg.frozen 3⟩

set_option maxHeartbeats 2000000 in
theorem read_dig (T C : Nat) (st : List UInt32 × Bool) (w : World) (hC : T < C) (h : Tkr w T st) (hF : Fnc w C T) :
    Calls Tryd.prog 31 #[.pointer (some ⟨C, 0, none⟩)] w fun e w' => e = .returned (.agg #[.int .u32 ((tkD st).1 0).toNat, .int .u32 ((tkD st).1 1).toNat, .int .u32 ((tkD st).1 2).toNat, .int .u32 ((tkD st).1 3).toNat]) ∧ Tkr w' T (tkD st).2 ∧ Only T w w' := by
  have h0 : D4 w T C st #[.int .u32 0, .int .u32 0, .int .u32 0, .int .u32 0] (w.alloc (.cells #[.int .u32 0, .int .u32 0, .int .u32 0, .int .u32 0] 24)) :=
    ⟨h.below ((Below.refl _ w).alloc h.lt _), Blk.alloc hF _, Blk.new w _ _, (Only.refl T w).alloc (Nat.le_of_lt h.lt) _, hC, hF.lt⟩
  have e0 : (tkD st).1 0 = (tkW st).1 := rfl
  have e1 : (tkD st).1 1 = (tkW (tkW st).2).1 := rfl
  have e2 : (tkD st).1 2 = (tkW (tkW (tkW st).2).2).1 := rfl
  have e3 : (tkD st).1 3 = (tkW (tkW (tkW (tkW st).2).2).2).1 := rfl
  have e4 : (tkD st).2 = (tkW (tkW (tkW (tkW st).2).2).2).2 := rfl
  rw [e0, e1, e2, e3, e4]
  clear e0 e1 e2 e3 e4 h hF hC
  have H0 := Lib.hid h0
  obtain ⟨c0, ⟨d0, d1, d2, d3⟩, ⟨f0, f1, f2, f3⟩⟩ := h0.facts
  clear h0
  go_enter Tryd.func31, Tryd.ntmps31
  go_wp2_with fail
  refine wp_loop_rounds 5 ?_
  rw [rounds_succ]
  go_wp2_with fail
  refine (taker_word T _ _ H0.out.tk).mono ?_
  rintro e w1 ⟨rfl, hT, hO⟩
  have h1 := H0.out.call hT hO
  obtain ⟨⟨x0, s0⟩, hx⟩ : ∃ y, tkW st = y := ⟨_, rfl⟩
  rw [hx] at h1 ⊢
  dsimp only at h1 ⊢
  have HX0 := Lib.hid hx
  clear c0 d0 d1 d2 d3 f0 f1 f2 f3 hT hO H0 hx
  obtain ⟨c0, ⟨d0, d1, d2, d3⟩, ⟨f0, f1, f2, f3⟩⟩ := h1.facts
  have hs : D4 w T C s0 #[.int .u32 x0.toNat, .int .u32 0, .int .u32 0, .int .u32 0] (w1.setCell ⟨w.heap.size, 0, none⟩ (.int .u32 x0.toNat)) := h1.set 0 _
  have H0 := Lib.hid hs
  clear h1 hs
  go_wp2_with fail
  clear c0 d0 d1 d2 d3 f0 f1 f2 f3
  obtain ⟨c0, ⟨d0, d1, d2, d3⟩, ⟨f0, f1, f2, f3⟩⟩ := H0.out.facts
  rw [rounds_succ]
  go_wp2_with fail
  refine (taker_word T _ _ H0.out.tk).mono ?_
  rintro e w2 ⟨rfl, hT, hO⟩
  have h1 := H0.out.call hT hO
  obtain ⟨⟨x1, s1⟩, hx⟩ : ∃ y, tkW s0 = y := ⟨_, rfl⟩
  rw [hx] at h1 ⊢
  dsimp only at h1 ⊢
  have HX1 := Lib.hid hx
  clear c0 d0 d1 d2 d3 f0 f1 f2 f3 hT hO H0 hx
  obtain ⟨c0, ⟨d0, d1, d2, d3⟩, ⟨f0, f1, f2, f3⟩⟩ := h1.facts
  have hs : D4 w T C s1 #[.int .u32 x0.toNat, .int .u32 x1.toNat, .int .u32 0, .int .u32 0] (w2.setCell ⟨w.heap.size, 1, none⟩ (.int .u32 x1.toNat)) := h1.set 1 _
  have H0 := Lib.hid hs
  clear h1 hs
  go_wp2_with fail
  clear c0 d0 d1 d2 d3 f0 f1 f2 f3
  obtain ⟨c0, ⟨d0, d1, d2, d3⟩, ⟨f0, f1, f2, f3⟩⟩ := H0.out.facts
  rw [rounds_succ]
  go_wp2_with fail
  refine (taker_word T _ _ H0.out.tk).mono ?_
  rintro e w3 ⟨rfl, hT, hO⟩
  have h1 := H0.out.call hT hO
  obtain ⟨⟨x2, s2⟩, hx⟩ : ∃ y, tkW s1 = y := ⟨_, rfl⟩
  rw [hx] at h1 ⊢
  dsimp only at h1 ⊢
  have HX2 := Lib.hid hx
  clear c0 d0 d1 d2 d3 f0 f1 f2 f3 hT hO H0 hx
  obtain ⟨c0, ⟨d0, d1, d2, d3⟩, ⟨f0, f1, f2, f3⟩⟩ := h1.facts
  have hs : D4 w T C s2 #[.int .u32 x0.toNat, .int .u32 x1.toNat, .int .u32 x2.toNat, .int .u32 0] (w3.setCell ⟨w.heap.size, 2, none⟩ (.int .u32 x2.toNat)) := h1.set 2 _
  have H0 := Lib.hid hs
  clear h1 hs
  go_wp2_with fail
  clear c0 d0 d1 d2 d3 f0 f1 f2 f3
  obtain ⟨c0, ⟨d0, d1, d2, d3⟩, ⟨f0, f1, f2, f3⟩⟩ := H0.out.facts
  rw [rounds_succ]
  go_wp2_with fail
  refine (taker_word T _ _ H0.out.tk).mono ?_
  rintro e w4 ⟨rfl, hT, hO⟩
  have h1 := H0.out.call hT hO
  obtain ⟨⟨x3, s3⟩, hx⟩ : ∃ y, tkW s2 = y := ⟨_, rfl⟩
  rw [hx] at h1 ⊢
  dsimp only at h1 ⊢
  have HX3 := Lib.hid hx
  clear c0 d0 d1 d2 d3 f0 f1 f2 f3 hT hO H0 hx
  obtain ⟨c0, ⟨d0, d1, d2, d3⟩, ⟨f0, f1, f2, f3⟩⟩ := h1.facts
  have hs : D4 w T C s3 #[.int .u32 x0.toNat, .int .u32 x1.toNat, .int .u32 x2.toNat, .int .u32 x3.toNat] (w4.setCell ⟨w.heap.size, 3, none⟩ (.int .u32 x3.toNat)) := h1.set 3 _
  have H0 := Lib.hid hs
  clear h1 hs
  go_wp2_with fail
  rw [rounds_succ]
  clear c0 d0 d1 d2 d3 f0 f1 f2 f3
  obtain ⟨c0, ⟨d0, d1, d2, d3⟩, ⟨f0, f1, f2, f3⟩⟩ := H0.out.facts
  go_wp2_with fail
  have h4 : D4 w T C s3 #[.int .u32 x0.toNat, .int .u32 x1.toNat, .int .u32 x2.toNat, .int .u32 x3.toNat] _ := (((H0.out.set 0 (.int .u32 x0.toNat)).set 1 (.int .u32 x1.toNat)).set 2 (.int .u32 x2.toNat)).set 3 (.int .u32 x3.toNat)
  clear c0 d0 d1 d2 d3 f0 f1 f2 f3 H0
  obtain ⟨c0, ⟨d0, d1, d2, d3⟩, _⟩ := h4.facts
  refine bodyPost_ret (by simp [results, Tryd.results31, go_sem, d0, d1, d2, d3]; try rfl) rfl ?_
  rw [HX0.out]
  dsimp only
  rw [HX1.out]
  dsimp only
  rw [HX2.out]
  dsimp only
  rw [HX3.out]
  exact ⟨rfl, h4.tk, h4.on⟩
end Go.Proofs.YtdkkomcokefkhaaDoor
namespace Go.Proofs.YtdkkomcokefkhaaDoor
open Go.RowKit

abbrev St32 := List UInt32 × Bool
/-- A list's elements taken one by one, up to a number, as long as there are words. -/
def loopT {α : Type} (f : St32 → α × St32) : Nat → St32 → List α → List α × St32
  | 0, st, acc => (acc, st)
  | n + 1, st, acc => if st.2 = true then (acc, st) else loopT f n (f st).2 (acc ++ [(f st).1])
def tkP (st : St32) : Int × St32 := (((tkW st).1.toNat : Int), (tkW st).2)

theorem loopT_zero {α : Type} (f : St32 → α × St32) (st : St32) (acc : List α) : loopT f 0 st acc = (acc, st) := rfl
theorem loopT_short {α : Type} (f : St32 → α × St32) (n : Nat) (st : St32) (acc : List α) (h : st.2 = true) : loopT f n st acc = (acc, st) := by
  cases n with
  | zero => rfl
  | succ n => unfold loopT; rw [if_pos h]
theorem loopT_step {α : Type} (f : St32 → α × St32) (n : Nat) (st : St32) (acc : List α) (h : st.2 = false) : loopT f (n + 1) st acc = loopT f n (f st).2 (acc ++ [(f st).1]) := by
  rw [loopT, if_neg (by rw [h]; decide)]

theorem tkW_back {st : St32} (h : (tkW st).2.2 = false) : st.2 = false ∧ st.1 = [(tkW st).1] ++ (tkW st).2.1 := by
  match st, h with
  | ([], b), h => exact absurd (show true = false from h) (by decide)
  | (x :: r, b), h => exact ⟨h, rfl⟩
theorem tkP_back {st : St32} (h : (tkP st).2.2 = false) : st.2 = false ∧ st.1 = [wI (tkP st).1] ++ (tkP st).2.1 := by
  obtain ⟨h1, h2⟩ := tkW_back h
  refine ⟨h1, h2.trans ?_⟩
  have : wI (tkP st).1 = (tkW st).1 := by unfold wI tkP; rw [Int.toNat_natCast, UInt32.ofNat_toNat]
  rw [this]
  rfl
theorem tkD_back {st : St32} (h : (tkD st).2.2 = false) : st.2 = false ∧ st.1 = dgL (tkD st).1 ++ (tkD st).2.1 := by
  obtain ⟨h3, e3⟩ := tkW_back (st := (tkW (tkW (tkW st).2).2).2) h
  obtain ⟨h2, e2⟩ := tkW_back (st := (tkW (tkW st).2).2) h3
  obtain ⟨h1, e1⟩ := tkW_back (st := (tkW st).2) h2
  obtain ⟨h0, e0⟩ := tkW_back (st := st) h1
  refine ⟨h0, e0.trans ?_⟩
  rw [e1, e2, e3]
  rfl
theorem loop_back {α : Type} {f : St32 → α × St32} {enc : α → List UInt32} (hf : ∀ st : St32, (f st).2.2 = false → st.2 = false ∧ st.1 = enc (f st).1 ++ (f st).2.1) :
    ∀ (n : Nat) (st : St32) (acc acc' : List α) (st' : St32), loopT f n st acc = (acc', st') → st'.2 = false → st.2 = false ∧ ∃ xs, acc' = acc ++ xs ∧ xs.length = n ∧ st.1 = xs.flatMap enc ++ st'.1
  | 0, st, acc, acc', st', h, hs => by
    injection h with h1 h2
    subst h1 h2
    exact ⟨hs, [], by simp, rfl, by simp⟩
  | n + 1, st, acc, acc', st', h, hs => by
    by_cases hb : st.2 = true
    · rw [loopT_short f _ st acc hb] at h
      injection h with h1 h2
      subst h1 h2
      rw [hb] at hs; cases hs
    · rw [loopT_step f n st acc (by simpa using hb)] at h
      obtain ⟨h1, xs, h2, h3, h4⟩ := loop_back hf n _ _ _ _ h hs
      obtain ⟨h5, h6⟩ := hf st h1
      refine ⟨h5, (f st).1 :: xs, by rw [h2]; simp, by simp [h3], ?_⟩
      rw [h6, h4, List.flatMap_cons, List.append_assoc]
theorem loop_ok {α : Type} {f : St32 → α × St32} {enc : α → List UInt32} {g : α → α} (xs : List α) (hf : ∀ x ∈ xs, ∀ r, f (enc x ++ r, false) = (g x, (r, false))) (r : List UInt32) (acc : List α) :
    loopT f xs.length (xs.flatMap enc ++ r, false) acc = (acc ++ xs.map g, (r, false)) := by
  induction xs generalizing acc with
  | nil => simp [loopT]
  | cons x xs ih =>
    rw [List.length_cons, loopT_step _ _ _ _ rfl, List.flatMap_cons, List.append_assoc, hf x (by simp)]
    rw [ih (fun y hy => hf y (by simp [hy]))]
    simp

/-- All that is read, in order. -/
structure Run (l : List UInt32) (a : UInt32) (d : Nat → UInt32) (f : UInt32) (n : UInt32) (ps : List Int) (m : UInt32) (ds : List (Nat → UInt32)) (st : St32) : Prop where
  s : ∃ s1 s2 s3 s4 s5 s6, tkW (l, false) = (a, s1) ∧ tkD s1 = (d, s2) ∧ tkW s2 = (f, s3) ∧ tkW s3 = (n, s4) ∧ loopT tkP n.toNat s4 [] = (ps, s5) ∧ tkW s5 = (m, s6) ∧ loopT tkD m.toNat s6 [] = (ds, st)

theorem flat_one (ps : List Int) : ps.flatMap (fun p => [wI p]) = ps.map wI := by
  induction ps with
  | nil => rfl
  | cons p ps ih => rw [List.flatMap_cons, ih]; rfl
theorem run_back {l : List UInt32} {a : UInt32} {d : Nat → UInt32} {f n : UInt32} {ps : List Int} {m : UInt32} {ds : List (Nat → UInt32)} {st : St32} (h : Run l a d f n ps m ds st) (h1 : st.1 = []) (h2 : st.2 = false) :
    wordsR a.toNat d ps ds f.toNat = l := by
  obtain ⟨s1, s2, s3, s4, s5, s6, k1, k2, k3, k4, k5, k6, k7⟩ := h.s
  obtain ⟨b6, xs, e6, l6, c6⟩ := loop_back (enc := dgL) (fun st => tkD_back) _ _ _ _ _ k7 h2
  obtain ⟨b5, c5⟩ := tkW_back (st := s5) (by rw [k6]; exact b6)
  obtain ⟨b4, ys, e4, l4, c4⟩ := loop_back (enc := fun p => [wI p]) (fun st => tkP_back) _ _ _ _ _ k5 b5
  obtain ⟨b3, c3⟩ := tkW_back (st := s3) (by rw [k4]; exact b4)
  obtain ⟨b2, c2⟩ := tkW_back (st := s2) (by rw [k3]; exact b3)
  obtain ⟨b1, c1⟩ := tkD_back (st := s1) (by rw [k2]; exact b2)
  obtain ⟨b0, c0⟩ := tkW_back (st := (l, false)) (by rw [k1]; exact b1)
  rw [k6] at c5; rw [k4] at c3; rw [k3] at c2; rw [k2] at c1; rw [k1] at c0
  dsimp only at c0 c1 c2 c3 c5
  rw [List.nil_append] at e6 e4
  subst e6 e4
  rw [h1, List.append_nil] at c6
  rw [flat_one] at c4
  have ha : wI (a.toNat : Int) = a := by unfold wI; rw [Int.toNat_natCast, UInt32.ofNat_toNat]
  have hf : wI (f.toNat : Int) = f := by unfold wI; rw [Int.toNat_natCast, UInt32.ofNat_toNat]
  rw [c0, c1, c2, c3, c4, c5, c6]
  unfold wordsR headR
  rw [ha, hf, l4, l6, UInt32.ofNat_toNat, UInt32.ofNat_toNat]
  simp only [List.append_assoc, List.cons_append, List.nil_append]

theorem tkW_cons (x : UInt32) (r : List UInt32) (b : Bool) : tkW (x :: r, b) = (x, (r, b)) := rfl
theorem tkD_dgL (d : Nat → UInt32) (r : List UInt32) : tkD (dgL d ++ r, false) = (mk4 (d 0) (d 1) (d 2) (d 3), (r, false)) := rfl
theorem run_ok {t f : Int} {I : Nat → UInt32} {ps : List Int} {ds : List (Nat → UInt32)} (hr : rightR t I ps ds.length f = true) {a : UInt32} {d : Nat → UInt32} {g n : UInt32} {qs : List Int} {m : UInt32} {es : List (Nat → UInt32)} {st : St32}
    (h : Run (wordsR t I ps ds f) a d g n qs m es st) : st = ([], false) ∧ a = wI t ∧ d = mk4 (I 0) (I 1) (I 2) (I 3) ∧ g = wI f ∧ qs = ps ∧ es = ds.map (fun d => mk4 (d 0) (d 1) (d 2) (d 3)) := by
  obtain ⟨⟨t1, t6⟩, ⟨f0, f8⟩, hp20, hpa, hm20⟩ := rr_in hr
  obtain ⟨s1, s2, s3, s4, s5, s6, k1, k2, k3, k4, k5, k6, k7⟩ := h.s
  unfold wordsR headR at k1
  simp only [List.append_assoc, List.cons_append, List.nil_append] at k1
  rw [tkW_cons] at k1
  injection k1 with k1 e1
  subst e1
  rw [tkD_dgL] at k2
  injection k2 with k2 e2
  subst e2
  rw [tkW_cons] at k3
  injection k3 with k3 e3
  subst e3
  rw [tkW_cons] at k4
  injection k4 with k4 e4
  subst e4
  have hn : n.toNat = ps.length := by rw [← k4, UInt32.toNat_ofNat']; omega
  rw [hn, ← flat_one, loop_ok (enc := fun p => [wI p]) (g := id) ps (fun x hx r => by
    have hx2 := hpa x hx
    show ((((wI x).toNat : Nat) : Int), (r, false)) = _
    rw [wI_val (by omega) (by omega)]
    rfl)] at k5
  injection k5 with k5 e5
  subst e5
  rw [tkW_cons] at k6
  injection k6 with k6 e6
  subst e6
  have hm : m.toNat = ds.length := by rw [← k6, UInt32.toNat_ofNat']; omega
  rw [hm] at k7
  have h7 := loop_ok (f := tkD) (enc := dgL) (g := fun d => mk4 (d 0) (d 1) (d 2) (d 3)) ds (fun x _ r => tkD_dgL x r) [] []
  rw [List.append_nil] at h7
  rw [h7] at k7
  injection k7 with k7 e7
  exact ⟨e7.symm, k1.symm, k2.symm, k3.symm, by rw [← k5]; simp, by rw [← k7]; simp⟩
theorem run_bad {l : List UInt32} {a : UInt32} {d : Nat → UInt32} {f n : UInt32} {ps : List Int} {m : UInt32} {ds : List (Nat → UInt32)} {st : St32} (h : Run l a d f n ps m ds st)
    (hb : st.2 = true ∨ st.1 ≠ [] ∨ rightR a.toNat d ps ds.length f.toNat = false) (t : Int) (I : Nat → UInt32) (qs : List Int) (es : List (Nat → UInt32)) (g : Int) (hr : rightR t I qs es.length g = true) : wordsR t I qs es g ≠ l := by
  intro e
  subst e
  obtain ⟨h1, h2, h3, h4, h5, h6⟩ := run_ok hr h
  obtain ⟨⟨t1, t6⟩, ⟨f0, f8⟩, hp20, hpa, hm20⟩ := rr_in hr
  subst h1
  rcases hb with hb | hb | hb
  · cases hb
  · exact hb rfl
  · subst h2 h3 h4 h5 h6
    rw [wI_val (by omega) (by omega), wI_val (by omega) (by omega), List.length_map] at hb
    have : rightR t I ps es.length g = rightR t (mk4 (I 0) (I 1) (I 2) (I 3)) ps es.length g := rfl
    rw [this, hb] at hr
    cases hr
end Go.Proofs.YtdkkomcokefkhaaDoor
