/- The law RecipeSwaps, walked. -/
import Derived.Test.YtdkkomcokefkhaaDoorRcX
namespace Go.Proofs.YtdkkomcokefkhaaDoor
open Go.RowKit

/-- The law's own blocks: the two numbers, both recipes, and the one input of the second. -/
structure Sw (w : World) (x y : UInt8) (P : Nat) (B A : Option Addr) (n c m e : Nat) (W : World) : Prop where
  at_ : Blk W w.heap.size 43 #[.int .u8 x.toNat, .int .u8 y.toNat]
  a : Blk W P 28 #[.int .i64 6, .int .u32 0, .int .u32 0, .int .u32 0, .int .u32 0, .slice none 0 0, .slice B n c, .int .i64 0]
  d : Blk W (P + 1) 24 #[.int .u32 7, .int .u32 0, .int .u32 0, .int .u32 0]
  b : Blk W (P + 1 + 1) 28 #[.int .i64 3, .int .u32 0, .int .u32 0, .int .u32 0, .int .u32 0, .slice A m e, .slice (some ⟨P + 1, 0, none⟩) 1 1, .int .i64 0]
  bel : Below w.heap.size w W
  lt : w.heap.size < P
section
variable {w W W' : World} {x y : UInt8} {P n c m e : Nat} {A B : Option Addr}
theorem Sw.below (h : Sw w x y P B A n c m e W) (hb : Below W.heap.size W W') : Sw w x y P B A n c m e W' := ⟨h.at_.below hb h.at_.lt, h.a.below hb h.a.lt, h.d.below hb h.d.lt, h.b.below hb h.b.lt, h.bel.trans (hb.mono h.bel.size), h.lt⟩
theorem Sw.above (h : Sw w x y P B A n c m e W) (hb : Below (P + 3) W W') : Sw w x y P B A n c m e W' :=
  have := h.lt
  ⟨h.at_.below hb (by omega), h.a.below hb (by omega), h.d.below hb (by omega), h.b.below hb (by omega), h.bel.trans (hb.mono (by omega)), h.lt⟩
theorem Sw.alloc (h : Sw w x y P B A n c m e W) (o : Obj) : Sw w x y P B A n c m e (W.alloc o) := h.below ((Below.refl _ W).alloc (Nat.le_refl _) o)
theorem Sw.drew (h : Sw w x y P B A n c m e W) : Sw w x y P B A n c m e W.drew := h.below (Below.refl _ W).drew
theorem Sw.new {w1 : World} (h : Blk w1 w.heap.size 43 #[.int .u8 x.toNat, .int .u8 y.toNat]) (hb : Below w.heap.size w w1) : Sw w x y w1.heap.size B A n c m e (((w1.alloc (.cells #[.int .i64 6, .int .u32 0, .int .u32 0, .int .u32 0, .int .u32 0, .slice none 0 0, .slice B n c, .int .i64 0] 28)).alloc (.cells #[.int .u32 7, .int .u32 0, .int .u32 0, .int .u32 0] 24)).alloc (.cells #[.int .i64 3, .int .u32 0, .int .u32 0, .int .u32 0, .int .u32 0, .slice A m e, .slice (some ⟨w1.heap.size + 1, 0, none⟩) 1 1, .int .i64 0] 28)) := by
  obtain ⟨W1, h1⟩ : ∃ W1, W1 = w1.alloc (.cells #[.int .i64 6, .int .u32 0, .int .u32 0, .int .u32 0, .int .u32 0, .slice none 0 0, .slice B n c, .int .i64 0] 28) := ⟨_, rfl⟩
  have z1 : W1.heap.size = w1.heap.size + 1 := by rw [h1]; simp
  have k1 : Blk W1 w1.heap.size 28 #[.int .i64 6, .int .u32 0, .int .u32 0, .int .u32 0, .int .u32 0, .slice none 0 0, .slice B n c, .int .i64 0] := by rw [h1]; exact Blk.new w1 _ _
  have b1 : Below w1.heap.size w1 W1 := by rw [h1]; exact (Below.refl _ w1).alloc (Nat.le_refl _) _
  rw [← h1]
  obtain ⟨W2, h2⟩ : ∃ W2, W2 = W1.alloc (.cells #[.int .u32 7, .int .u32 0, .int .u32 0, .int .u32 0] 24) := ⟨_, rfl⟩
  have z2 : W2.heap.size = w1.heap.size + 1 + 1 := by rw [h2]; simp [z1]
  have k2 : Blk W2 (w1.heap.size + 1) 24 #[.int .u32 7, .int .u32 0, .int .u32 0, .int .u32 0] := by rw [h2, ← z1]; exact Blk.new W1 _ _
  have b2 : Below W1.heap.size W1 W2 := by rw [h2]; exact (Below.refl _ W1).alloc (Nat.le_refl _) _
  rw [← h2]
  have k3 := Blk.new W2 28 #[.int .i64 3, .int .u32 0, .int .u32 0, .int .u32 0, .int .u32 0, .slice A m e, .slice (some ⟨w1.heap.size + 1, 0, none⟩) 1 1, .int .i64 0]
  rw [z2] at k3
  have hl := h.lt
  exact ⟨((h.below b1 hl).below b2 (by omega)).alloc _, ((k1.below b2 (by omega))).alloc _, k2.alloc _, k3, ((hb.trans (b1.mono hb.size)).trans (b2.mono (by omega))).alloc (by omega) _, hl⟩
end

theorem sd7 {W : World} {g : Nat} (h : Blk W g 24 #[.int .u32 7, .int .u32 0, .int .u32 0, .int .u32 0]) : Sd W W.heap.size (some ⟨g, 0, none⟩) [mk4 7 0 0 0] := fun _ => by
  refine ⟨_, _, rfl, h.lt, fun j hj i hi => ?_⟩
  obtain rfl : j = 0 := by simpa using hj
  match i, hi with
  | 0, _ => exact h.cell 0
  | 1, _ => exact h.cell 1
  | 2, _ => exact h.cell 2
  | 3, _ => exact h.cell 3

/-- The first recipe with two inputs exchanged, under way. -/
structure Sq (w : World) (x y : UInt8) (P : Nat) (B A : Option Addr) (n c m e : Nat) (C g c4 : Nat) (l : List (Nat → UInt32)) (W : World) : Prop where
  sw : Sw w x y P B A n c m e W
  cb : Blk W C 28 #[.int .i64 6, .int .u32 0, .int .u32 0, .int .u32 0, .int .u32 0, .slice none 0 0, .slice (some ⟨g, 0, none⟩) n c4, .int .i64 0]
  row : W.ownsRow (C + 1) 24 4 (.slice (some ⟨g, 0, none⟩) n c4) n ((l.flatMap dgL).map wv)
  lt : P + 1 + 1 < C
section
variable {w W W' : World} {x y : UInt8} {P n c m e C g c4 : Nat} {A B : Option Addr} {l : List (Nat → UInt32)}
theorem Sq.below (h : Sq w x y P B A n c m e C g c4 l W) (hb : Below W.heap.size W W') : Sq w x y P B A n c m e C g c4 l W' := ⟨h.sw.below hb, h.cb.below hb h.cb.lt, own_below h.row rfl hb, h.lt⟩
theorem Sq.drew (h : Sq w x y P B A n c m e C g c4 l W) : Sq w x y P B A n c m e C g c4 l W.drew := h.below (Below.refl _ W).drew
theorem Sq.store (h : Sq w x y P B A n c m e C g c4 l W) (i : Nat) (hi : i < l.length) (d : Nat → UInt32) :
    Sq w x y P B A n c m e C g c4 (l.set i d) ((((W.setCell ⟨g, 4 * i, none⟩ (.int .u32 (d 0).toNat)).setCell ⟨g, 4 * i + 1, none⟩ (.int .u32 (d 1).toNat)).setCell ⟨g, 4 * i + 2, none⟩ (.int .u32 (d 2).toNat)).setCell ⟨g, 4 * i + 3, none⟩ (.int .u32 (d 3).toNat)) := by
  have hg := (h.row.lt g rfl).1
  have hl := h.lt
  have b4 : Below (C + 1) W ((((W.setCell ⟨g, 4 * i, none⟩ (.int .u32 (d 0).toNat)).setCell ⟨g, 4 * i + 1, none⟩ (.int .u32 (d 1).toNat)).setCell ⟨g, 4 * i + 2, none⟩ (.int .u32 (d 2).toNat)).setCell ⟨g, 4 * i + 3, none⟩ (.int .u32 (d 3).toNat)) :=
    ((((Below.refl _ W).setCell (p := ⟨g, 4 * i, none⟩) hg _).setCell (p := ⟨g, 4 * i + 1, none⟩) hg _).setCell (p := ⟨g, 4 * i + 2, none⟩) hg _).setCell (p := ⟨g, 4 * i + 3, none⟩) hg _
  exact ⟨h.sw.above (b4.mono (by omega)), h.cb.below b4 (Nat.lt_succ_self _), own_dig h.row i hi d, h.lt⟩
theorem Sq.cells (h : Sq w x y P B A n c m e C g c4 l W) (i : Nat) (hi : i < l.length) : (W.cell? ⟨g, 4 * i, none⟩ = some (.int .u32 (l[i] 0).toNat) ∧ W.cell? ⟨g, 4 * i + 1, none⟩ = some (.int .u32 (l[i] 1).toNat) ∧ W.cell? ⟨g, 4 * i + 2, none⟩ = some (.int .u32 (l[i] 2).toNat) ∧ W.cell? ⟨g, 4 * i + 3, none⟩ = some (.int .u32 (l[i] 3).toNat)) ∧
    (W.frozen? ⟨g, 4 * i, none⟩ = false ∧ W.frozen? ⟨g, 4 * i + 1, none⟩ = false ∧ W.frozen? ⟨g, 4 * i + 2, none⟩ = false ∧ W.frozen? ⟨g, 4 * i + 3, none⟩ = false) := by
  have k : ∀ r, r < 4 → W.cell? ⟨g, 4 * i + r, none⟩ = some (.int .u32 (l[i] r).toNat) := fun r hr => own_cell_any h.row (by rw [List.getElem?_map, flat_get l i hi r hr]; rfl)
  exact ⟨⟨k 0 (by decide), k 1 (by decide), k 2 (by decide), k 3 (by decide)⟩, own_frozen_any h.row _, own_frozen_any h.row _, own_frozen_any h.row _, own_frozen_any h.row _⟩
end
theorem own_upto {w w' : World} {B E sz g n c : Nat} {xs : List Value} (h : w.ownsRow B E sz (.slice (some ⟨g, 0, none⟩) n c) n xs) {D : Nat} (hb : Below D w w') (hg : g < D) : w'.ownsRow B E sz (.slice (some ⟨g, 0, none⟩) n c) n xs := by
  refine ⟨h.1, ?_⟩
  rcases h.2 with h2 | ⟨g', cap, cur, hv, hg', hh, r⟩
  · exact .inl h2
  · refine .inr ⟨g', cap, cur, hv, hg', ?_, r⟩
    injection hv with hv _ _
    injection hv with hv
    injection hv with hv
    subst hv
    exact (hb.block _ hg).trans hh
theorem Sq.upto {w W W' : World} {x y : UInt8} {P n c m e C g c4 : Nat} {A B : Option Addr} {l : List (Nat → UInt32)} (h : Sq w x y P B A n c m e C g c4 l W) {D : Nat} (hb : Below D W W') (hg : g < D) (hC : C < D) : Sq w x y P B A n c m e C g c4 l W' :=
  have := h.lt
  ⟨h.sw.above (hb.mono (by omega)), h.cb.below hb hC, own_upto h.row hb hg, h.lt⟩
/-- The second recipe with two passes exchanged, besides. -/
structure Sr (w : World) (x y : UInt8) (P : Nat) (B A : Option Addr) (n c m e : Nat) (C g c4 : Nat) (l : List (Nat → UInt32)) (D h e5 : Nat) (q : List Int) (W : World) : Prop where
  sq : Sq w x y P B A n c m e C g c4 l W
  db : Blk W D 28 #[.int .i64 3, .int .u32 0, .int .u32 0, .int .u32 0, .int .u32 0, .slice (some ⟨h, 0, none⟩) m e5, .slice (some ⟨P + 1, 0, none⟩) 1 1, .int .i64 0]
  row : W.ownsRow (D + 1) 3 1 (.slice (some ⟨h, 0, none⟩) m e5) m (q.map iv)
  gl : g < D
  cl : C < D
section
variable {w W W' : World} {x y : UInt8} {P n c m e C g c4 D h e5 : Nat} {A B : Option Addr} {l : List (Nat → UInt32)} {q : List Int}
theorem Sr.below (k : Sr w x y P B A n c m e C g c4 l D h e5 q W) (hb : Below W.heap.size W W') : Sr w x y P B A n c m e C g c4 l D h e5 q W' := ⟨k.sq.below hb, k.db.below hb k.db.lt, own_below k.row rfl hb, k.gl, k.cl⟩
theorem Sr.drew (k : Sr w x y P B A n c m e C g c4 l D h e5 q W) : Sr w x y P B A n c m e C g c4 l D h e5 q W.drew := k.below (Below.refl _ W).drew
theorem Sr.store (k : Sr w x y P B A n c m e C g c4 l D h e5 q W) (i : Nat) (hi : i < m) (v : Int) : Sr w x y P B A n c m e C g c4 l D h e5 (q.set i v) (W.setCell ⟨h, i, none⟩ (.int .i64 v)) := by
  have hg := (k.row.lt h rfl).1
  have b4 : Below (D + 1) W (W.setCell ⟨h, i, none⟩ (.int .i64 v)) := (Below.refl _ W).setCell (p := ⟨h, i, none⟩) hg _
  refine ⟨k.sq.upto (b4.mono (Nat.le_succ _)) k.gl k.cl, k.db.below b4 (Nat.lt_succ_self _), ?_, k.gl, k.cl⟩
  rw [List.map_set]
  exact own_set_any k.row i (by omega) (iv v)
theorem Sr.cells (k : Sr w x y P B A n c m e C g c4 l D h e5 q W) (i : Nat) (hi : i < q.length) : W.cell? ⟨h, i, none⟩ = some (.int .i64 q[i]) ∧ W.frozen? ⟨h, i, none⟩ = false :=
  ⟨own_cell_any k.row (by rw [List.getElem?_map, List.getElem?_eq_getElem hi]; rfl), own_frozen_any k.row _⟩
end
theorem rsw_PutA (b off : Nat) (ls : List (Nat → UInt32)) (n c : Nat) (W : World) (hn : n = ls.length) (hd : Sd W W.heap.size (some ⟨b, off, none⟩) ls) (hr : rightR 6 (fun _ => 0) [] n 0 = true) :
    Calls Tryd.prog 11 #[.agg #[.int .i64 6, .int .u32 0, .int .u32 0, .int .u32 0, .int .u32 0, .slice none 0 0, .slice (some ⟨b, off, none⟩) n c, .int .i64 0]] W fun r w' => (∃ s, r = .returned (.tuple #[.string s, .int .i64 0]) ∧ Hid (s.data.toList = bytesR 6 (fun _ => 0) [] ls 0)) ∧ Below W.heap.size W w' := by
  subst hn
  exact recipe_Put 6 (fun _ => 0) none (some ⟨b, off, none⟩) [] ls 0 c 0 W Sl.nil hd hr
theorem rsw_PutB (A : Option Addr) (ps : List Int) (n e g : Nat) (W : World) (hn : n = ps.length) (hs : Sl W W.heap.size A n (ps.map iv)) (hd : Sd W W.heap.size (some ⟨g, 0, none⟩) [mk4 7 0 0 0]) (hr : rightR 3 (fun _ => 0) ps 1 0 = true) :
    Calls Tryd.prog 11 #[.agg #[.int .i64 3, .int .u32 0, .int .u32 0, .int .u32 0, .int .u32 0, .slice A n e, .slice (some ⟨g, 0, none⟩) 1 1, .int .i64 0]] W fun r w' => (∃ s, r = .returned (.tuple #[.string s, .int .i64 0]) ∧ Hid (s.data.toList = bytesR 3 (fun _ => 0) ps [mk4 7 0 0 0] 0)) ∧ Below W.heap.size W w' := by
  subst hn
  exact recipe_Put 3 (fun _ => 0) A (some ⟨g, 0, none⟩) ps [mk4 7 0 0 0] e 1 0 W hs hd hr
theorem rsw_SameA (b off b' : Nat) (ls ls' : List (Nat → UInt32)) (n c c' : Nat) (W : World) (hn : n = ls.length) (hn' : n = ls'.length) (hm : n ≤ 100) (hd : Sd W W.heap.size (some ⟨b, off, none⟩) ls) (hd' : Sd W W.heap.size (some ⟨b', 0, none⟩) ls') {E : Bool} (hE : eqDs ls ls' = E) :
    Calls Tryd.prog 22 #[.agg #[.int .i64 6, .int .u32 0, .int .u32 0, .int .u32 0, .int .u32 0, .slice none 0 0, .slice (some ⟨b, off, none⟩) n c, .int .i64 0], .agg #[.int .i64 6, .int .u32 0, .int .u32 0, .int .u32 0, .int .u32 0, .slice none 0 0, .slice (some ⟨b', 0, none⟩) n c', .int .i64 0]] W fun r w' => r = .returned (.bool E) ∧ Below W.heap.size W w' := by
  have k := recipe_Same 6 6 (fun _ => 0) (fun _ => 0) none (some ⟨b, off, none⟩) none (some ⟨b', 0, none⟩) [] [] ls ls' 0 c 0 c' 0 0 W Sl.nil Sl.nil hd hd' (by decide) (by omega)
  rw [← hn, ← hn'] at k
  have e : sameR 6 6 (fun _ => 0) (fun _ => 0) 0 0 [] [] ls ls' = E := by rw [← hE]; rfl
  rw [e] at k
  exact k
theorem rsw_SameB (A A' : Option Addr) (ps ps' : List Int) (n e e' g : Nat) (W : World) (hn : n = ps.length) (hn' : n = ps'.length) (hm : n ≤ 100) (hs : Sl W W.heap.size A n (ps.map iv)) (hs' : Sl W W.heap.size A' n (ps'.map iv)) (hd : Sd W W.heap.size (some ⟨g, 0, none⟩) [mk4 7 0 0 0]) {E : Bool} (hE : decide (ps = ps') = E) :
    Calls Tryd.prog 22 #[.agg #[.int .i64 3, .int .u32 0, .int .u32 0, .int .u32 0, .int .u32 0, .slice A n e, .slice (some ⟨g, 0, none⟩) 1 1, .int .i64 0], .agg #[.int .i64 3, .int .u32 0, .int .u32 0, .int .u32 0, .int .u32 0, .slice A' n e', .slice (some ⟨g, 0, none⟩) 1 1, .int .i64 0]] W fun r w' => r = .returned (.bool E) ∧ Below W.heap.size W w' := by
  have hs2 : Sl W W.heap.size A ps.length (ps.map iv) := by rw [← hn]; exact hs
  have hs3 : Sl W W.heap.size A' ps'.length (ps'.map iv) := by rw [← hn']; exact hs'
  have k := recipe_Same 3 3 (fun _ => 0) (fun _ => 0) A (some ⟨g, 0, none⟩) A' (some ⟨g, 0, none⟩) ps ps' [mk4 7 0 0 0] [mk4 7 0 0 0] e 1 e' 1 0 0 W hs2 hs3 hd hd (by omega) (by decide)
  rw [← hn, ← hn'] at k
  have e : sameR 3 3 (fun _ => 0) (fun _ => 0) 0 0 ps ps' [mk4 7 0 0 0] [mk4 7 0 0 0] = E := by
    rw [← hE]
    unfold sameR
    rw [show eqD (fun _ => 0) (fun _ => 0) = true from eqD_self _, show eqDs [mk4 7 0 0 0] [mk4 7 0 0 0] = true from by decide]
    simp
  rw [e] at k
  exact k
theorem text_toList (s : ByteArray) : s.toList = s.data.toList := by
  have := Lib.extract_toList s 0 s.size
  have e3 : s.extract 0 s.size = s := by
    refine ba_inj ?_
    rw [Lib.extract_data]
    show (s.data.toList.take (s.size - 0)) = _
    exact List.take_of_length_le (Nat.le_refl _)
  rw [e3] at this
  rw [this]
  exact List.take_of_length_le (Nat.le_refl _)
theorem iv_oneCell (l : List Int) : ∀ u ∈ l.map iv, u.oneCell' = true := by
  intro u hu; obtain ⟨_, _, rfl⟩ := List.mem_map.1 hu; rfl
theorem rsw_RightA (B : Option Addr) (n c : Nat) (W : World) (hr : rightR 6 (fun _ => 0) [] n 0 = true) :
    Calls Tryd.prog 18 #[.agg #[.int .i64 6, .int .u32 0, .int .u32 0, .int .u32 0, .int .u32 0, .slice none 0 0, .slice B n c, .int .i64 0]] W fun r w' => r = .returned (.bool true) ∧ Below W.heap.size W w' := by
  have k := refR_Right 6 (fun _ => 0) none B [] 0 n c 0 W Sl.nil (by decide) (by have := (rr_in hr).2.2.2.2; omega)
  rw [hr] at k
  exact k
theorem rsw_RightB (A : Option Addr) (ps : List Int) (e g : Nat) (W : World) (hs : Sl W W.heap.size A ps.length (ps.map iv)) (hr : rightR 3 (fun _ => 0) ps 1 0 = true) :
    Calls Tryd.prog 18 #[.agg #[.int .i64 3, .int .u32 0, .int .u32 0, .int .u32 0, .int .u32 0, .slice A ps.length e, .slice (some ⟨g, 0, none⟩) 1 1, .int .i64 0]] W fun r w' => r = .returned (.bool true) ∧ Below W.heap.size W w' := by
  have k := refR_Right 3 (fun _ => 0) A (some ⟨g, 0, none⟩) ps e 1 1 0 W hs (by have := (rr_in hr).2.2.1; omega) (by decide)
  rw [hr] at k
  exact k

set_option maxRecDepth 100000 in
set_option maxHeartbeats 4000000 in
theorem rswaps_good (x y : UInt8) (A B : Option Addr) (ls : List (Nat → UInt32)) (ps : List Int) (c e : Nat) (w : World) (hs : Sl w w.heap.size A ps.length (ps.map iv)) (hd : Sd w w.heap.size B ls)
    (hl1 : 1 ≤ ls.length) (hp1 : 1 ≤ ps.length) (hr : rightR 6 (fun _ => 0) [] ls.length 0 = true) (hr' : rightR 3 (fun _ => 0) ps 1 0 = true) :
    Calls Tryd.prog 8 #[.slice B ls.length c, .slice A ps.length e, .agg #[.int .u8 x.toNat, .int .u8 y.toNat]] w fun r w' => r = .returned (.bool true) ∧ Below w.heap.size w w' := by
  have hB0 := Lib.hid (Blk.new w 43 #[.int .u8 x.toNat, .int .u8 y.toNat])
  have HR := Lib.hid hr
  have HR' := Lib.hid hr'
  obtain ⟨_, _, _, _, hl20⟩ := rr_in hr
  obtain ⟨_, _, hp20, _, _⟩ := rr_in hr'
  have l1I : ¬ (ls.length : Int) < 1 := by omega
  have p1I : ¬ (ps.length : Int) < 1 := by omega
  clear hr hr'
  obtain ⟨i, hi⟩ : ∃ i : Nat, x.toNat % ls.length = i := ⟨_, rfl⟩
  obtain ⟨k, hk⟩ : ∃ k : Nat, y.toNat % ls.length = k := ⟨_, rfl⟩
  obtain ⟨m, hm⟩ : ∃ m : Nat, x.toNat % ps.length = m := ⟨_, rfl⟩
  obtain ⟨n, hn⟩ : ∃ n : Nat, y.toNat % ps.length = n := ⟨_, rfl⟩
  have hil : i < ls.length := by rw [← hi]; exact Nat.mod_lt _ hl1
  have hkl : k < ls.length := by rw [← hk]; exact Nat.mod_lt _ hl1
  have hml : m < ps.length := by rw [← hm]; exact Nat.mod_lt _ hp1
  have hnl : n < ps.length := by rw [← hn]; exact Nat.mod_lt _ hp1
  have hiI : (x.toNat : Int) % ls.length = i := by rw [← hi]; rfl
  have hkI : (y.toNat : Int) % ls.length = k := by rw [← hk]; rfl
  have hmI : (x.toNat : Int) % ps.length = m := by rw [← hm]; rfl
  have hnI : (y.toNat : Int) % ps.length = n := by rw [← hn]; rfl
  clear hi hk hm hn
  go_enter Tryd.func8, Tryd.ntmps8
  go_wp2_with fail
  refine (awake_any _).mono ?_
  rintro r w1 ⟨rfl, hb1⟩
  have hS := Lib.hid (Sw.new (A := A) (B := B) (n := ls.length) (c := c) (m := ps.length) (e := e) (hB0.out.below hb1 hB0.out.lt) (below_new hb1))
  clear hb1 hB0
  go_wp2_with fail
  generalize w1.heap.size = P at hS ⊢
  generalize World.alloc _ _ = W0 at hS ⊢
  refine (rsw_RightA B ls.length c _ HR.out).mono ?_
  rintro r w2 ⟨rfl, hb2⟩
  have hS2 := Lib.hid (hS.out.below hb2)
  clear hS hb2
  obtain ⟨⟨b0, b1, b2, b3, b4, b5, b6, b7⟩, _⟩ := hS2.out.b.all8
  go_wp2_with fail
  refine (rsw_RightB A ps e (P + 1) _ ((hs.below hS2.out.bel).more hS2.out.bel.size) HR'.out).mono ?_
  rintro r w3 ⟨rfl, hb3⟩
  have hS3 := Lib.hid (hS2.out.below hb3)
  clear hS2 hb3 b0 b1 b2 b3 b4 b5 b6 b7
  have x0 : w3.cell? ⟨w.heap.size, 0, none⟩ = some (.int .u8 x.toNat) := hS3.out.at_.cell 0
  have x1 : w3.cell? ⟨w.heap.size, 1, none⟩ = some (.int .u8 y.toNat) := hS3.out.at_.cell 1
  have xl := x.toNat_lt
  have yl := y.toNat_lt
  have lne : ((ls.length : Int) == 0) = false := by rw [beq_eq_false_iff_ne]; omega
  have pne : ((ps.length : Int) == 0) = false := by rw [beq_eq_false_iff_ne]; omega
  obtain ⟨⟨a0, a1, a2, a3, a4, a5, a6, a7⟩, _⟩ := hS3.out.a.all8
  have l1F : ((ls.length : Int) < 1) = False := eq_false (by omega)
  have p1F : ((ps.length : Int) < 1) = False := eq_false (by omega)
  have hSc := Lib.hid (hS3.out.alloc (.cells #[.int .i64 6, .int .u32 0, .int .u32 0, .int .u32 0, .int .u32 0, .slice none 0 0, .slice B ls.length c, .int .i64 0] 28))
  have hCb := Lib.hid (Blk.new w3 28 #[.int .i64 6, .int .u32 0, .int .u32 0, .int .u32 0, .int .u32 0, .slice none 0 0, .slice B ls.length c, .int .i64 0])
  have hz4 : (w3.alloc (.cells #[.int .i64 6, .int .u32 0, .int .u32 0, .int .u32 0, .int .u32 0, .slice none 0 0, .slice B ls.length c, .int .i64 0] 28)).heap.size = w3.heap.size + 1 := by simp
  obtain ⟨bl, offl, rfl, hbl, hcl⟩ := sd_cells (hd.below hSc.out.bel) hl1
  have hcl2 : ∀ j u, ((ls.flatMap dgL).map wv)[j]? = some u → ((w3.alloc (.cells #[.int .i64 6, .int .u32 0, .int .u32 0, .int .u32 0, .int .u32 0, .slice none 0 0, .slice (some ⟨bl, offl, none⟩) ls.length c, .int .i64 0] 28)).alloc (.cells #[] 24)).cell? ((⟨bl, offl, none⟩ : Addr).add j) = some u := fun j u hu => by
    have e := hcl j u hu
    have hbb : ((⟨bl, offl, none⟩ : Addr).add j).block < (w3.alloc (.cells #[.int .i64 6, .int .u32 0, .int .u32 0, .int .u32 0, .int .u32 0, .slice none 0 0, .slice (some ⟨bl, offl, none⟩) ls.length c, .int .i64 0] 28)).heap.size := by
      have ea : (⟨bl, offl, none⟩ : Addr).add j = ⟨bl, offl + j, none⟩ := by unfold Addr.add; split <;> simp_all
      rw [ea]
      have := hSc.out.bel.size
      show bl < _
      omega
    rw [← e]
    exact ((Below.refl _ _).alloc (Nat.le_refl _) _).cell hbb
  have HCL := Lib.hid hcl2
  clear hcl2 hcl
  go_wp2_with (at_builtin; refine wpList_append_at' rfl _ _ 26 rfl (w3.heap.size + 1) 24 (.agg #[.int .u32 0, .int .u32 0, .int .u32 0, .int .u32 0]) 4 16 Tryd.underlying26 info_dig rfl (by decide) _ 0 [] rfl (own_none _ _ _ 4 (by simp) (by simp)) _ ls.length c ((ls.flatMap dgL).map wv) rfl (by rw [List.length_map, flat_len]; omega) HCL.out (wv_oneCell _) (by omega) (by omega) (by simp) hl1 ?_; intro g4 c4 w4 hown4 hb4; have hPw := hS3.out.b.lt; have hS4 := Lib.hid ((hSc.out.alloc (.cells #[] 24)).above (hb4.mono (by omega))); have hC4 := Lib.hid ((hCb.out.alloc (.cells #[] 24)).below hb4 (Nat.lt_succ_self _)); have q6 : w4.cell? ⟨w3.heap.size, 6, none⟩ = some (.slice (some ⟨bl, offl, none⟩) ls.length c) := hC4.out.cell 6; have f6 := hC4.out.frozen 6)
  have hq : Sq w x y P (some ⟨bl, offl, none⟩) A ls.length c ps.length e w3.heap.size g4 c4 ls (w4.setCell ⟨w3.heap.size, 6, none⟩ (.slice (some ⟨g4, 0, none⟩) ls.length c4)) := by
    refine ⟨hS4.out.above ((Below.refl _ _).setCell (p := ⟨w3.heap.size, 6, none⟩) hPw _), hC4.out.set 6 _, ?_, hPw⟩
    rw [Nat.zero_add, List.nil_append] at hown4
    exact ownsRow_setCell_below (a := ⟨w3.heap.size, 6, none⟩) hown4 (Nat.lt_succ_self _) _
  obtain ⟨di, hdi⟩ : ∃ d, ls[i] = d := ⟨_, rfl⟩
  obtain ⟨dk, hdk⟩ : ∃ d, ls[k] = d := ⟨_, rfl⟩
  have hci : ∀ W : World, Below w.heap.size w W → (W.cell? ⟨bl, offl + 4 * i, none⟩ = some (.int .u32 (di 0).toNat) ∧ W.cell? ⟨bl, offl + 4 * i + 1, none⟩ = some (.int .u32 (di 1).toNat) ∧ W.cell? ⟨bl, offl + 4 * i + 2, none⟩ = some (.int .u32 (di 2).toNat) ∧ W.cell? ⟨bl, offl + 4 * i + 3, none⟩ = some (.int .u32 (di 3).toNat)) := fun W hb => by
    obtain ⟨b', o', e1, _, hc⟩ := (hd.below hb) hl1
    injection e1 with e1
    injection e1 with e1 e2 _
    subst e1 e2
    rw [← hdi]
    exact dcell (hc i hil)
  have hck : ∀ W : World, Below w.heap.size w W → (W.cell? ⟨bl, offl + 4 * k, none⟩ = some (.int .u32 (dk 0).toNat) ∧ W.cell? ⟨bl, offl + 4 * k + 1, none⟩ = some (.int .u32 (dk 1).toNat) ∧ W.cell? ⟨bl, offl + 4 * k + 2, none⟩ = some (.int .u32 (dk 2).toNat) ∧ W.cell? ⟨bl, offl + 4 * k + 3, none⟩ = some (.int .u32 (dk 3).toNat)) := fun W hb => by
    obtain ⟨b', o', e1, _, hc⟩ := (hd.below hb) hl1
    injection e1 with e1
    injection e1 with e1 e2 _
    subst e1 e2
    rw [← hdk]
    exact dcell (hc k hkl)
  have HCI := Lib.hid hci
  have HCK := Lib.hid hck
  have HDI := Lib.hid hdi
  have HDK := Lib.hid hdk
  have m1 : i * 4 = 4 * i := Nat.mul_comm i 4
  have m2 : k * 4 = 4 * k := Nat.mul_comm k 4
  have hiI1 : (0 : Int) ≤ i := by omega
  have hiI2 : (i : Int) < ls.length := by omega
  have hkI1 : (0 : Int) ≤ k := by omega
  have hkI2 : (k : Int) < ls.length := by omega
  clear hci hck hdi hdk a0 a1 a2 a3 a4 a5 a6 a7 q6 f6 hown4 hb4 hS4 hC4 hSc hCb HCL hz4 x0 x1
  generalize w3.heap.size = C at hq hPw ⊢
  generalize World.setCell w4 _ _ = W5 at hq ⊢
  have hq1 := hq.drew
  obtain ⟨⟨z0, z1, z2, z3⟩, ⟨y0, y1, y2, y3⟩⟩ := hq.cells i hil
  have sl0 := HCK.out _ hq1.sw.bel
  refine wp_region_held_drew (S := (fun W => W.cell? ⟨C, 6, none⟩ = some (.slice (some ⟨g4, 0, none⟩) ls.length c4) ∧ (W.cell? ⟨bl, offl + 4 * k, none⟩ = some (.int .u32 (dk 0).toNat) ∧ W.cell? ⟨bl, offl + 4 * k + 1, none⟩ = some (.int .u32 (dk 1).toNat) ∧ W.cell? ⟨bl, offl + 4 * k + 2, none⟩ = some (.int .u32 (dk 2).toNat) ∧ W.cell? ⟨bl, offl + 4 * k + 3, none⟩ = some (.int .u32 (dk 3).toNat)))) (by kernel_rfl) ⟨hq1.cb.cell 6, sl0⟩ (fun hHeld => ?_)
  refine wpAnyH_take (i := 0) (v := ?_) rfl (by kernel_rfl) (by kernel_rfl) (by kernel_rfl) (fun _ _ _ h => h) (Or.inl ⟨by kernel_rfl, ?_⟩) (by assumption) ?_
  rotate_left
  · intro w hSw; (try dsimp only at hSw); go_simp; (try with_reducible rfl)
  try simp only [Act.put, List.getElem_toArray, List.getElem_cons_zero, List.setIfInBounds_toArray, List.set_cons_zero, List.set_cons_succ]
  refine wpAnyH_take (i := 1) (v := ?_) rfl (by kernel_rfl) (by kernel_rfl) (by kernel_rfl) (fun _ _ _ h => h) (Or.inl ⟨by kernel_rfl, ?_⟩) (by assumption) ?_
  rotate_left
  · intro w hSw; (try dsimp only at hSw); go_simp; (try with_reducible rfl)
  try simp only [Act.put, List.getElem_toArray, List.getElem_cons_succ, List.getElem_cons_zero, List.setIfInBounds_toArray, List.set_cons_zero, List.set_cons_succ]
  refine wpAnyH_take (i := 2) (v := ?_) rfl (by kernel_rfl) (by kernel_rfl) (by kernel_rfl) (fun _ _ _ h => h) (Or.inl ⟨by kernel_rfl, ?_⟩) (by assumption) ?_
  rotate_left
  · intro w hSw; (try dsimp only at hSw); go_simp; (try with_reducible rfl)
  try simp only [Act.put, List.getElem_toArray, List.getElem_cons_succ, List.getElem_cons_zero, List.setIfInBounds_toArray, List.set_cons_zero, List.set_cons_succ]
  refine wpAnyH_take (i := 3) (v := ?_) rfl (by kernel_rfl) (by kernel_rfl) (by kernel_rfl) (fun _ _ _ h => h) (Or.inl ⟨by kernel_rfl, ?_⟩) (by assumption) ?_
  rotate_left
  · intro w hSw; (try dsimp only at hSw); go_simp; (try with_reducible rfl)
  try simp only [Act.put, List.getElem_toArray, List.getElem_cons_succ, List.getElem_cons_zero, List.setIfInBounds_toArray, List.set_cons_zero, List.set_cons_succ]
  refine wpAnyH_take (i := 4) (v := ?_) rfl (by kernel_rfl) (by kernel_rfl) (by kernel_rfl) (fun _ _ _ h => h) (Or.inl ⟨by kernel_rfl, ?_⟩) (by assumption) ?_
  rotate_left
  · intro w hSw; (try dsimp only at hSw); go_simp; (try with_reducible rfl)
  try simp only [Act.put, List.getElem_toArray, List.getElem_cons_succ, List.getElem_cons_zero, List.setIfInBounds_toArray, List.set_cons_zero, List.set_cons_succ]
  refine wpAnyH_take (i := 5) (v := ?_) rfl (by kernel_rfl) (by kernel_rfl) (by kernel_rfl) (fun _ _ _ h => h) (Or.inl ⟨by kernel_rfl, ?_⟩) (by assumption) ?_
  rotate_left
  · intro w hSw; (try dsimp only at hSw); go_simp; (try with_reducible rfl)
  try simp only [Act.put, List.getElem_toArray, List.getElem_cons_succ, List.getElem_cons_zero, List.setIfInBounds_toArray, List.set_cons_zero, List.set_cons_succ]
  refine wpAnyH_take (i := 6) (v := ?_) rfl (by kernel_rfl) (by kernel_rfl) (by kernel_rfl) (fun _ _ _ h => h) (Or.inl ⟨by kernel_rfl, ?_⟩) (by assumption) ?_
  rotate_left
  · intro w hSw; (try dsimp only at hSw); go_simp; (try with_reducible rfl)
  try simp only [Act.put, List.getElem_toArray, List.getElem_cons_succ, List.getElem_cons_zero, List.setIfInBounds_toArray, List.set_cons_zero, List.set_cons_succ]
  refine wpAnyH_take (i := 7) (v := ?_) rfl (by kernel_rfl) (by kernel_rfl) (by kernel_rfl) (fun _ _ _ h => h) (Or.inl ⟨by kernel_rfl, ?_⟩) (by assumption) ?_
  rotate_left
  · intro w hSw; (try dsimp only at hSw); go_simp; (try with_reducible rfl)
  try simp only [Act.put, List.getElem_toArray, List.getElem_cons_succ, List.getElem_cons_zero, List.setIfInBounds_toArray, List.set_cons_zero, List.set_cons_succ]
  refine wpAnyH_ready (rs := [8]) (by kernel_rfl) (by simp) ?_
  refine AllReadyH.cons rfl (fun K hK => ?_) AllReadyH.nil
  go_simp
  have hq2 := (hq.store i hil dk).drew
  refine hK.out _ _ ⟨hq2.cb.cell 6, HCK.out _ hq2.sw.bel⟩ (fun hHeld => ?_)
  clear hK K
  try simp only [Act.put, List.getElem_toArray, List.getElem_cons_succ, List.getElem_cons_zero, List.setIfInBounds_toArray, List.set_cons_zero, List.set_cons_succ]
  refine wpAnyH_done (by kernel_rfl) ?_ _
  clear z0 z1 z2 z3 y0 y1 y2 y3 sl0 hq1
  generalize World.drew (World.setCell _ _ _) = W6 at hq2 ⊢
  have hq3 := hq2
  obtain ⟨⟨z0, z1, z2, z3⟩, ⟨y0, y1, y2, y3⟩⟩ := hq3.cells k (by rw [List.length_set]; exact hkl)
  go_wp2_with fail
  have sl0 := HCI.out _ hq3.sw.bel
  refine wp_region_held_drew (S := (fun W => W.cell? ⟨C, 6, none⟩ = some (.slice (some ⟨g4, 0, none⟩) ls.length c4) ∧ (W.cell? ⟨bl, offl + 4 * i, none⟩ = some (.int .u32 (di 0).toNat) ∧ W.cell? ⟨bl, offl + 4 * i + 1, none⟩ = some (.int .u32 (di 1).toNat) ∧ W.cell? ⟨bl, offl + 4 * i + 2, none⟩ = some (.int .u32 (di 2).toNat) ∧ W.cell? ⟨bl, offl + 4 * i + 3, none⟩ = some (.int .u32 (di 3).toNat)))) (by kernel_rfl) ⟨hq3.cb.cell 6, sl0⟩ (fun hHeld => ?_)
  refine wpAnyH_take (i := 0) (v := ?_) rfl (by kernel_rfl) (by kernel_rfl) (by kernel_rfl) (fun _ _ _ h => h) (Or.inl ⟨by kernel_rfl, ?_⟩) (by assumption) ?_
  rotate_left
  · intro w hSw; (try dsimp only at hSw); go_simp; (try with_reducible rfl)
  try simp only [Act.put, List.getElem_toArray, List.getElem_cons_zero, List.setIfInBounds_toArray, List.set_cons_zero, List.set_cons_succ]
  refine wpAnyH_take (i := 1) (v := ?_) rfl (by kernel_rfl) (by kernel_rfl) (by kernel_rfl) (fun _ _ _ h => h) (Or.inl ⟨by kernel_rfl, ?_⟩) (by assumption) ?_
  rotate_left
  · intro w hSw; (try dsimp only at hSw); go_simp; (try with_reducible rfl)
  try simp only [Act.put, List.getElem_toArray, List.getElem_cons_succ, List.getElem_cons_zero, List.setIfInBounds_toArray, List.set_cons_zero, List.set_cons_succ]
  refine wpAnyH_take (i := 2) (v := ?_) rfl (by kernel_rfl) (by kernel_rfl) (by kernel_rfl) (fun _ _ _ h => h) (Or.inl ⟨by kernel_rfl, ?_⟩) (by assumption) ?_
  rotate_left
  · intro w hSw; (try dsimp only at hSw); go_simp; (try with_reducible rfl)
  try simp only [Act.put, List.getElem_toArray, List.getElem_cons_succ, List.getElem_cons_zero, List.setIfInBounds_toArray, List.set_cons_zero, List.set_cons_succ]
  refine wpAnyH_take (i := 3) (v := ?_) rfl (by kernel_rfl) (by kernel_rfl) (by kernel_rfl) (fun _ _ _ h => h) (Or.inl ⟨by kernel_rfl, ?_⟩) (by assumption) ?_
  rotate_left
  · intro w hSw; (try dsimp only at hSw); go_simp; (try with_reducible rfl)
  try simp only [Act.put, List.getElem_toArray, List.getElem_cons_succ, List.getElem_cons_zero, List.setIfInBounds_toArray, List.set_cons_zero, List.set_cons_succ]
  refine wpAnyH_take (i := 4) (v := ?_) rfl (by kernel_rfl) (by kernel_rfl) (by kernel_rfl) (fun _ _ _ h => h) (Or.inl ⟨by kernel_rfl, ?_⟩) (by assumption) ?_
  rotate_left
  · intro w hSw; (try dsimp only at hSw); go_simp; (try with_reducible rfl)
  try simp only [Act.put, List.getElem_toArray, List.getElem_cons_succ, List.getElem_cons_zero, List.setIfInBounds_toArray, List.set_cons_zero, List.set_cons_succ]
  refine wpAnyH_take (i := 5) (v := ?_) rfl (by kernel_rfl) (by kernel_rfl) (by kernel_rfl) (fun _ _ _ h => h) (Or.inl ⟨by kernel_rfl, ?_⟩) (by assumption) ?_
  rotate_left
  · intro w hSw; (try dsimp only at hSw); go_simp; (try with_reducible rfl)
  try simp only [Act.put, List.getElem_toArray, List.getElem_cons_succ, List.getElem_cons_zero, List.setIfInBounds_toArray, List.set_cons_zero, List.set_cons_succ]
  refine wpAnyH_take (i := 6) (v := ?_) rfl (by kernel_rfl) (by kernel_rfl) (by kernel_rfl) (fun _ _ _ h => h) (Or.inl ⟨by kernel_rfl, ?_⟩) (by assumption) ?_
  rotate_left
  · intro w hSw; (try dsimp only at hSw); go_simp; (try with_reducible rfl)
  try simp only [Act.put, List.getElem_toArray, List.getElem_cons_succ, List.getElem_cons_zero, List.setIfInBounds_toArray, List.set_cons_zero, List.set_cons_succ]
  refine wpAnyH_take (i := 7) (v := ?_) rfl (by kernel_rfl) (by kernel_rfl) (by kernel_rfl) (fun _ _ _ h => h) (Or.inl ⟨by kernel_rfl, ?_⟩) (by assumption) ?_
  rotate_left
  · intro w hSw; (try dsimp only at hSw); go_simp; (try with_reducible rfl)
  try simp only [Act.put, List.getElem_toArray, List.getElem_cons_succ, List.getElem_cons_zero, List.setIfInBounds_toArray, List.set_cons_zero, List.set_cons_succ]
  refine wpAnyH_ready (rs := [8]) (by kernel_rfl) (by simp) ?_
  refine AllReadyH.cons rfl (fun K hK => ?_) AllReadyH.nil
  go_simp
  have hq4 := (hq3.store k (by rw [List.length_set]; exact hkl) di).drew
  refine hK.out _ _ ⟨hq4.cb.cell 6, HCI.out _ hq4.sw.bel⟩ (fun hHeld => ?_)
  clear hK K
  try simp only [Act.put, List.getElem_toArray, List.getElem_cons_succ, List.getElem_cons_zero, List.setIfInBounds_toArray, List.set_cons_zero, List.set_cons_succ]
  refine wpAnyH_done (by kernel_rfl) ?_ _
  clear z0 z1 z2 z3 y0 y1 y2 y3 sl0 hq2 hq3
  generalize World.drew (World.setCell _ _ _) = W7 at hq4 ⊢
  have hq5 : Sq w x y P (some ⟨bl, offl, none⟩) A ls.length c ps.length e C g4 c4 (swp ls i k di dk) W7 := hq4
  clear hq4
  have x0 : W7.cell? ⟨w.heap.size, 0, none⟩ = some (.int .u8 x.toNat) := hq5.sw.at_.cell 0
  have x1 : W7.cell? ⟨w.heap.size, 1, none⟩ = some (.int .u8 y.toNat) := hq5.sw.at_.cell 1
  obtain ⟨⟨b0, b1, b2, b3, b4, b5, b6, b7⟩, _⟩ := hq5.sw.b.all8
  have HQ5 := Lib.hid hq5
  have HQ6 := Lib.hid (hq5.below ((Below.refl _ W7).alloc (Nat.le_refl _) (.cells #[.int .i64 3, .int .u32 0, .int .u32 0, .int .u32 0, .int .u32 0, .slice A ps.length e, .slice (some ⟨P + 1, 0, none⟩) 1 1, .int .i64 0] 28)))
  have HDB := Lib.hid (Blk.new W7 28 #[.int .i64 3, .int .u32 0, .int .u32 0, .int .u32 0, .int .u32 0, .slice A ps.length e, .slice (some ⟨P + 1, 0, none⟩) 1 1, .int .i64 0])
  have hgl := (hq5.row.lt g4 rfl).2
  have hCl := hq5.cb.lt
  obtain ⟨bp, offp, hAe, hbp, hcp⟩ := (hs.below HQ6.out.sw.bel).2 hp1
  subst hAe
  have hcp2 : ∀ j u, (ps.map iv)[j]? = some u → ((W7.alloc (.cells #[.int .i64 3, .int .u32 0, .int .u32 0, .int .u32 0, .int .u32 0, .slice (some ⟨bp, offp, none⟩) ps.length e, .slice (some ⟨P + 1, 0, none⟩) 1 1, .int .i64 0] 28)).alloc (.cells #[] 3)).cell? ((⟨bp, offp, none⟩ : Addr).add j) = some u := fun j u hu => by
    have e := hcp j u hu
    have ea : (⟨bp, offp, none⟩ : Addr).add j = ⟨bp, offp + j, none⟩ := by unfold Addr.add; split <;> simp_all
    rw [ea, ← e]
    refine ((Below.refl _ _).alloc (Nat.le_refl _) _).cell ?_
    have := HQ6.out.sw.bel.size
    show bp < _
    omega
  have HCP := Lib.hid hcp2
  clear hcp hcp2 hq5
  go_wp2_with (at_builtin; refine wpList_append_at' rfl _ _ 25 rfl (W7.heap.size + 1) 3 (.int .i64 0) 1 8 Tryd.underlying25 info_int rfl (by decide) _ 0 [] rfl (own_none _ _ _ 1 (by simp) (by simp)) _ ps.length e (ps.map iv) rfl (by rw [List.length_map, Nat.mul_one]) HCP.out (iv_oneCell _) (by omega) (by omega) (by simp) hp1 ?_; intro h5 e5 w5 hown5 hb5; have HQ7 := Lib.hid ((HQ6.out.below ((Below.refl _ _).alloc (Nat.le_refl _) (.cells #[] 3))).upto (hb5.mono (Nat.le_succ _)) hgl hCl); have hD5 := Lib.hid ((HDB.out.alloc (.cells #[] 3)).below hb5 (Nat.lt_succ_self _)); have q5 : w5.cell? ⟨W7.heap.size, 5, none⟩ = some (.slice (some ⟨bp, offp, none⟩) ps.length e) := hD5.out.cell 5; have f5 := hD5.out.frozen 5)
  have hr0 : Sr w x y P (some ⟨bl, offl, none⟩) (some ⟨bp, offp, none⟩) ls.length c ps.length e C g4 c4 (swp ls i k di dk) W7.heap.size h5 e5 ps (w5.setCell ⟨W7.heap.size, 5, none⟩ (.slice (some ⟨h5, 0, none⟩) ps.length e5)) := by
    refine ⟨HQ7.out.upto ((Below.refl _ _).setCell (p := ⟨W7.heap.size, 5, none⟩) (Nat.le_refl _) _) hgl hCl, hD5.out.set 5 _, ?_, hgl, hCl⟩
    rw [Nat.zero_add, List.nil_append] at hown5
    exact ownsRow_setCell_below (a := ⟨W7.heap.size, 5, none⟩) hown5 (Nat.lt_succ_self _) _
  obtain ⟨pm, hpm⟩ : ∃ v, ps[m] = v := ⟨_, rfl⟩
  obtain ⟨pn, hpn⟩ : ∃ v, ps[n] = v := ⟨_, rfl⟩
  have hcm : ∀ W : World, Below w.heap.size w W → W.cell? ⟨bp, offp + m, none⟩ = some (.int .i64 pm) := fun W hb => by
    obtain ⟨b', o', e1, _, hc⟩ := (hs.below hb).int hml
    injection e1 with e1
    injection e1 with e1 e2 _
    subst e1 e2
    rw [← hpm]
    exact hc
  have hcn : ∀ W : World, Below w.heap.size w W → W.cell? ⟨bp, offp + n, none⟩ = some (.int .i64 pn) := fun W hb => by
    obtain ⟨b', o', e1, _, hc⟩ := (hs.below hb).int hnl
    injection e1 with e1
    injection e1 with e1 e2 _
    subst e1 e2
    rw [← hpn]
    exact hc
  have HCM := Lib.hid hcm
  have HCN := Lib.hid hcn
  have HPM := Lib.hid hpm
  have HPN := Lib.hid hpn
  have hmI1 : (0 : Int) ≤ m := by omega
  have hmI2 : (m : Int) < ps.length := by omega
  have hnI1 : (0 : Int) ≤ n := by omega
  have hnI2 : (n : Int) < ps.length := by omega
  clear hcm hcn hpm hpn b0 b1 b2 b3 b4 b5 b6 b7 x0 x1 q5 f5 hown5 hb5 HQ5 HQ6 HQ7 HDB hD5 HCP hgl hCl
  generalize W7.heap.size = D at hr0 ⊢
  generalize World.setCell w5 _ _ = W8 at hr0 ⊢
  obtain ⟨z0, y0⟩ := hr0.cells m (by first | exact hml | exact hnl | (rw [List.length_set]; exact hnl))
  have sl0 := HCN.out _ hr0.sq.sw.bel
  refine wp_region_held_drew (S := (fun W => W.cell? ⟨D, 5, none⟩ = some (.slice (some ⟨h5, 0, none⟩) ps.length e5) ∧ W.cell? ⟨bp, offp + n, none⟩ = some (.int .i64 pn))) (by kernel_rfl) ⟨hr0.db.cell 5, sl0⟩ (fun hHeld => ?_)
  refine wpAnyH_take (i := 0) (v := ?_) rfl (by kernel_rfl) (by kernel_rfl) (by kernel_rfl) (fun _ _ _ h => h) (Or.inl ⟨by kernel_rfl, ?_⟩) (by assumption) ?_
  rotate_left
  · intro w hSw; (try dsimp only at hSw); go_simp; (try with_reducible rfl)
  try simp only [Act.put, List.getElem_toArray, List.getElem_cons_zero, List.setIfInBounds_toArray, List.set_cons_zero, List.set_cons_succ]
  refine wpAnyH_take (i := 1) (v := ?_) rfl (by kernel_rfl) (by kernel_rfl) (by kernel_rfl) (fun _ _ _ h => h) (Or.inl ⟨by kernel_rfl, ?_⟩) (by assumption) ?_
  rotate_left
  · intro w hSw; (try dsimp only at hSw); go_simp; (try with_reducible rfl)
  try simp only [Act.put, List.getElem_toArray, List.getElem_cons_succ, List.getElem_cons_zero, List.setIfInBounds_toArray, List.set_cons_zero, List.set_cons_succ]
  refine wpAnyH_take (i := 2) (v := ?_) rfl (by kernel_rfl) (by kernel_rfl) (by kernel_rfl) (fun _ _ _ h => h) (Or.inl ⟨by kernel_rfl, ?_⟩) (by assumption) ?_
  rotate_left
  · intro w hSw; (try dsimp only at hSw); go_simp; (try with_reducible rfl)
  try simp only [Act.put, List.getElem_toArray, List.getElem_cons_succ, List.getElem_cons_zero, List.setIfInBounds_toArray, List.set_cons_zero, List.set_cons_succ]
  refine wpAnyH_take (i := 3) (v := ?_) rfl (by kernel_rfl) (by kernel_rfl) (by kernel_rfl) (fun _ _ _ h => h) (Or.inl ⟨by kernel_rfl, ?_⟩) (by assumption) ?_
  rotate_left
  · intro w hSw; (try dsimp only at hSw); go_simp; (try with_reducible rfl)
  try simp only [Act.put, List.getElem_toArray, List.getElem_cons_succ, List.getElem_cons_zero, List.setIfInBounds_toArray, List.set_cons_zero, List.set_cons_succ]
  refine wpAnyH_take (i := 4) (v := ?_) rfl (by kernel_rfl) (by kernel_rfl) (by kernel_rfl) (fun _ _ _ h => h) (Or.inl ⟨by kernel_rfl, ?_⟩) (by assumption) ?_
  rotate_left
  · intro w hSw; (try dsimp only at hSw); go_simp; (try with_reducible rfl)
  try simp only [Act.put, List.getElem_toArray, List.getElem_cons_succ, List.getElem_cons_zero, List.setIfInBounds_toArray, List.set_cons_zero, List.set_cons_succ]
  refine wpAnyH_take (i := 5) (v := ?_) rfl (by kernel_rfl) (by kernel_rfl) (by kernel_rfl) (fun _ _ _ h => h) (Or.inl ⟨by kernel_rfl, ?_⟩) (by assumption) ?_
  rotate_left
  · intro w hSw; (try dsimp only at hSw); go_simp; (try with_reducible rfl)
  try simp only [Act.put, List.getElem_toArray, List.getElem_cons_succ, List.getElem_cons_zero, List.setIfInBounds_toArray, List.set_cons_zero, List.set_cons_succ]
  refine wpAnyH_take (i := 6) (v := ?_) rfl (by kernel_rfl) (by kernel_rfl) (by kernel_rfl) (fun _ _ _ h => h) (Or.inl ⟨by kernel_rfl, ?_⟩) (by assumption) ?_
  rotate_left
  · intro w hSw; (try dsimp only at hSw); go_simp; (try with_reducible rfl)
  try simp only [Act.put, List.getElem_toArray, List.getElem_cons_succ, List.getElem_cons_zero, List.setIfInBounds_toArray, List.set_cons_zero, List.set_cons_succ]
  refine wpAnyH_take (i := 7) (v := ?_) rfl (by kernel_rfl) (by kernel_rfl) (by kernel_rfl) (fun _ _ _ h => h) (Or.inl ⟨by kernel_rfl, ?_⟩) (by assumption) ?_
  rotate_left
  · intro w hSw; (try dsimp only at hSw); go_simp; (try with_reducible rfl)
  try simp only [Act.put, List.getElem_toArray, List.getElem_cons_succ, List.getElem_cons_zero, List.setIfInBounds_toArray, List.set_cons_zero, List.set_cons_succ]
  refine wpAnyH_ready (rs := [8]) (by kernel_rfl) (by simp) ?_
  refine AllReadyH.cons rfl (fun K hK => ?_) AllReadyH.nil
  go_simp
  have hr1 := (hr0.store m (by assumption) pn).drew
  refine hK.out _ _ ⟨hr1.db.cell 5, HCN.out _ hr1.sq.sw.bel⟩ (fun hHeld => ?_)
  clear hK K
  try simp only [Act.put, List.getElem_toArray, List.getElem_cons_succ, List.getElem_cons_zero, List.setIfInBounds_toArray, List.set_cons_zero, List.set_cons_succ]
  refine wpAnyH_done (by kernel_rfl) ?_ _
  clear z0 y0 sl0 hr0
  generalize World.drew (World.setCell _ _ _) = W9 at hr1 ⊢
  go_wp2_with fail
  obtain ⟨z0, y0⟩ := hr1.cells n (by first | exact hml | exact hnl | (rw [List.length_set]; exact hnl))
  have sl0 := HCM.out _ hr1.sq.sw.bel
  refine wp_region_held_drew (S := (fun W => W.cell? ⟨D, 5, none⟩ = some (.slice (some ⟨h5, 0, none⟩) ps.length e5) ∧ W.cell? ⟨bp, offp + m, none⟩ = some (.int .i64 pm))) (by kernel_rfl) ⟨hr1.db.cell 5, sl0⟩ (fun hHeld => ?_)
  refine wpAnyH_take (i := 0) (v := ?_) rfl (by kernel_rfl) (by kernel_rfl) (by kernel_rfl) (fun _ _ _ h => h) (Or.inl ⟨by kernel_rfl, ?_⟩) (by assumption) ?_
  rotate_left
  · intro w hSw; (try dsimp only at hSw); go_simp; (try with_reducible rfl)
  try simp only [Act.put, List.getElem_toArray, List.getElem_cons_zero, List.setIfInBounds_toArray, List.set_cons_zero, List.set_cons_succ]
  refine wpAnyH_take (i := 1) (v := ?_) rfl (by kernel_rfl) (by kernel_rfl) (by kernel_rfl) (fun _ _ _ h => h) (Or.inl ⟨by kernel_rfl, ?_⟩) (by assumption) ?_
  rotate_left
  · intro w hSw; (try dsimp only at hSw); go_simp; (try with_reducible rfl)
  try simp only [Act.put, List.getElem_toArray, List.getElem_cons_succ, List.getElem_cons_zero, List.setIfInBounds_toArray, List.set_cons_zero, List.set_cons_succ]
  refine wpAnyH_take (i := 2) (v := ?_) rfl (by kernel_rfl) (by kernel_rfl) (by kernel_rfl) (fun _ _ _ h => h) (Or.inl ⟨by kernel_rfl, ?_⟩) (by assumption) ?_
  rotate_left
  · intro w hSw; (try dsimp only at hSw); go_simp; (try with_reducible rfl)
  try simp only [Act.put, List.getElem_toArray, List.getElem_cons_succ, List.getElem_cons_zero, List.setIfInBounds_toArray, List.set_cons_zero, List.set_cons_succ]
  refine wpAnyH_take (i := 3) (v := ?_) rfl (by kernel_rfl) (by kernel_rfl) (by kernel_rfl) (fun _ _ _ h => h) (Or.inl ⟨by kernel_rfl, ?_⟩) (by assumption) ?_
  rotate_left
  · intro w hSw; (try dsimp only at hSw); go_simp; (try with_reducible rfl)
  try simp only [Act.put, List.getElem_toArray, List.getElem_cons_succ, List.getElem_cons_zero, List.setIfInBounds_toArray, List.set_cons_zero, List.set_cons_succ]
  refine wpAnyH_take (i := 4) (v := ?_) rfl (by kernel_rfl) (by kernel_rfl) (by kernel_rfl) (fun _ _ _ h => h) (Or.inl ⟨by kernel_rfl, ?_⟩) (by assumption) ?_
  rotate_left
  · intro w hSw; (try dsimp only at hSw); go_simp; (try with_reducible rfl)
  try simp only [Act.put, List.getElem_toArray, List.getElem_cons_succ, List.getElem_cons_zero, List.setIfInBounds_toArray, List.set_cons_zero, List.set_cons_succ]
  refine wpAnyH_take (i := 5) (v := ?_) rfl (by kernel_rfl) (by kernel_rfl) (by kernel_rfl) (fun _ _ _ h => h) (Or.inl ⟨by kernel_rfl, ?_⟩) (by assumption) ?_
  rotate_left
  · intro w hSw; (try dsimp only at hSw); go_simp; (try with_reducible rfl)
  try simp only [Act.put, List.getElem_toArray, List.getElem_cons_succ, List.getElem_cons_zero, List.setIfInBounds_toArray, List.set_cons_zero, List.set_cons_succ]
  refine wpAnyH_take (i := 6) (v := ?_) rfl (by kernel_rfl) (by kernel_rfl) (by kernel_rfl) (fun _ _ _ h => h) (Or.inl ⟨by kernel_rfl, ?_⟩) (by assumption) ?_
  rotate_left
  · intro w hSw; (try dsimp only at hSw); go_simp; (try with_reducible rfl)
  try simp only [Act.put, List.getElem_toArray, List.getElem_cons_succ, List.getElem_cons_zero, List.setIfInBounds_toArray, List.set_cons_zero, List.set_cons_succ]
  refine wpAnyH_take (i := 7) (v := ?_) rfl (by kernel_rfl) (by kernel_rfl) (by kernel_rfl) (fun _ _ _ h => h) (Or.inl ⟨by kernel_rfl, ?_⟩) (by assumption) ?_
  rotate_left
  · intro w hSw; (try dsimp only at hSw); go_simp; (try with_reducible rfl)
  try simp only [Act.put, List.getElem_toArray, List.getElem_cons_succ, List.getElem_cons_zero, List.setIfInBounds_toArray, List.set_cons_zero, List.set_cons_succ]
  refine wpAnyH_ready (rs := [8]) (by kernel_rfl) (by simp) ?_
  refine AllReadyH.cons rfl (fun K hK => ?_) AllReadyH.nil
  go_simp
  have hr2 := (hr1.store n (by assumption) pm).drew
  refine hK.out _ _ ⟨hr2.db.cell 5, HCM.out _ hr2.sq.sw.bel⟩ (fun hHeld => ?_)
  clear hK K
  try simp only [Act.put, List.getElem_toArray, List.getElem_cons_succ, List.getElem_cons_zero, List.setIfInBounds_toArray, List.set_cons_zero, List.set_cons_succ]
  refine wpAnyH_done (by kernel_rfl) ?_ _
  clear z0 y0 sl0 hr1
  generalize World.drew (World.setCell _ _ _) = W10 at hr2 ⊢
  have hr3 : Sr w x y P (some ⟨bl, offl, none⟩) (some ⟨bp, offp, none⟩) ls.length c ps.length e C g4 c4 (swp ls i k di dk) D h5 e5 (swp ps m n pm pn) W10 := hr2
  clear hr2
  obtain ⟨⟨a0, a1, a2, a3, a4, a5, a6, a7⟩, _⟩ := hr3.sq.sw.a.all8
  go_wp2_with fail
  refine (rsw_PutA bl offl ls ls.length c _ rfl ((hd.below hr3.sq.sw.bel).more hr3.sq.sw.bel.size) HR.out).mono ?_
  rintro r w11 ⟨⟨s1, rfl, hs1⟩, hb11⟩
  have hr4 := hr3.below hb11
  clear hr3 hb11 a0 a1 a2 a3 a4 a5 a6 a7
  obtain ⟨⟨a0, a1, a2, a3, a4, a5, a6, a7⟩, _⟩ := hr4.sq.cb.all8
  have HRC : Hid (rightR 6 (fun _ => 0) [] (swp ls i k di dk).length 0 = true) := by unfold Hid; rw [swp_len]; exact HR.out
  have HRD : Hid (rightR 3 (fun _ => 0) (swp ps m n pm pn) 1 0 = true) := by
    have h := HR'.out
    unfold Hid rightR
    unfold rightR at h
    have hall : ps.all passOk = true := by
      cases hh : ps.all passOk with
      | true => rfl
      | false => have := rr_pass (t := 3) (I := fun _ => 0) (m := 1) (f := 0) hh; rw [HR'.out] at this; cases this
    have hall2 : (swp ps m n pm pn).all passOk = true := by
      have := pass_swp ps m n hml hnl hall
      rwa [HPM.out, HPN.out] at this
    rw [hall] at h
    rw [hall2, swp_len]
    exact h
  go_wp2_with fail
  refine (rsw_PutA g4 0 (swp ls i k di dk) ls.length c4 _ (swp_len _ _ _ _ _).symm (Sd.of_own hr4.sq.row) (by have := HRC.out; rwa [swp_len] at this)).mono ?_
  rintro r w12 ⟨⟨s2, rfl, hs2⟩, hb12⟩
  have hr5 := hr4.below hb12
  clear hr4 hb12 a0 a1 a2 a3 a4 a5 a6 a7
  obtain ⟨⟨a0, a1, a2, a3, a4, a5, a6, a7⟩, _⟩ := hr5.sq.sw.b.all8
  go_wp2_with fail
  refine (rsw_PutB (some ⟨bp, offp, none⟩) ps ps.length e (P + 1) _ rfl ((hs.below hr5.sq.sw.bel).more hr5.sq.sw.bel.size) (sd7 hr5.sq.sw.d) HR'.out).mono ?_
  rintro r w13 ⟨⟨s3, rfl, hs3⟩, hb13⟩
  have hr6 := hr5.below hb13
  clear hr5 hb13 a0 a1 a2 a3 a4 a5 a6 a7
  obtain ⟨⟨a0, a1, a2, a3, a4, a5, a6, a7⟩, _⟩ := hr6.db.all8
  have hSl6 : Sl w13 w13.heap.size (some ⟨h5, 0, none⟩) ps.length ((swp ps m n pm pn).map iv) := by
    obtain ⟨A', c', e', _, _, h⟩ := Sl.of_own hr6.row
    injection e' with e' _ _
    subst e'
    exact h
  go_wp2_with fail
  refine (rsw_PutB (some ⟨h5, 0, none⟩) (swp ps m n pm pn) ps.length e5 (P + 1) _ (swp_len _ _ _ _ _).symm hSl6 (sd7 hr6.sq.sw.d) HRD.out).mono ?_
  rintro r w14 ⟨⟨s4, rfl, hs4⟩, hb14⟩
  have hr7 := hr6.below hb14
  clear hr6 hb14 a0 a1 a2 a3 a4 a5 a6 a7 hSl6
  go_wp2_with fail
  have HELD : Hid (∀ W : World, Sr w x y P (some ⟨bl, offl, none⟩) (some ⟨bp, offp, none⟩) ls.length c ps.length e C g4 c4 (swp ls i k di dk) D h5 e5 (swp ps m n pm pn) W → W.cell? ⟨P, 0, none⟩ = some (.int .i64 6) ∧ W.cell? ⟨P, 1, none⟩ = some (.int .u32 0) ∧ W.cell? ⟨P, 2, none⟩ = some (.int .u32 0) ∧ W.cell? ⟨P, 3, none⟩ = some (.int .u32 0) ∧ W.cell? ⟨P, 4, none⟩ = some (.int .u32 0) ∧ W.cell? ⟨P, 5, none⟩ = some (.slice none 0 0) ∧ W.cell? ⟨P, 6, none⟩ = some (.slice (some ⟨bl, offl, none⟩) ls.length c) ∧ W.cell? ⟨P, 7, none⟩ = some (.int .i64 0) ∧ W.cell? ⟨C, 0, none⟩ = some (.int .i64 6) ∧ W.cell? ⟨C, 1, none⟩ = some (.int .u32 0) ∧ W.cell? ⟨C, 2, none⟩ = some (.int .u32 0) ∧ W.cell? ⟨C, 3, none⟩ = some (.int .u32 0) ∧ W.cell? ⟨C, 4, none⟩ = some (.int .u32 0) ∧ W.cell? ⟨C, 5, none⟩ = some (.slice none 0 0) ∧ W.cell? ⟨C, 6, none⟩ = some (.slice (some ⟨g4, 0, none⟩) ls.length c4) ∧ W.cell? ⟨C, 7, none⟩ = some (.int .i64 0) ∧ W.cell? ⟨P + 1 + 1, 0, none⟩ = some (.int .i64 3) ∧ W.cell? ⟨P + 1 + 1, 1, none⟩ = some (.int .u32 0) ∧ W.cell? ⟨P + 1 + 1, 2, none⟩ = some (.int .u32 0) ∧ W.cell? ⟨P + 1 + 1, 3, none⟩ = some (.int .u32 0) ∧ W.cell? ⟨P + 1 + 1, 4, none⟩ = some (.int .u32 0) ∧ W.cell? ⟨P + 1 + 1, 5, none⟩ = some (.slice (some ⟨bp, offp, none⟩) ps.length e) ∧ W.cell? ⟨P + 1 + 1, 6, none⟩ = some (.slice (some ⟨P + 1, 0, none⟩) 1 1) ∧ W.cell? ⟨P + 1 + 1, 7, none⟩ = some (.int .i64 0) ∧ W.cell? ⟨D, 0, none⟩ = some (.int .i64 3) ∧ W.cell? ⟨D, 1, none⟩ = some (.int .u32 0) ∧ W.cell? ⟨D, 2, none⟩ = some (.int .u32 0) ∧ W.cell? ⟨D, 3, none⟩ = some (.int .u32 0) ∧ W.cell? ⟨D, 4, none⟩ = some (.int .u32 0) ∧ W.cell? ⟨D, 5, none⟩ = some (.slice (some ⟨h5, 0, none⟩) ps.length e5) ∧ W.cell? ⟨D, 6, none⟩ = some (.slice (some ⟨P + 1, 0, none⟩) 1 1) ∧ W.cell? ⟨D, 7, none⟩ = some (.int .i64 0) ∧ W.cell? ⟨bl, offl + 4 * i, none⟩ = some (.int .u32 (di 0).toNat) ∧ W.cell? ⟨bl, offl + 4 * i + 1, none⟩ = some (.int .u32 (di 1).toNat) ∧ W.cell? ⟨bl, offl + 4 * i + 2, none⟩ = some (.int .u32 (di 2).toNat) ∧ W.cell? ⟨bl, offl + 4 * i + 3, none⟩ = some (.int .u32 (di 3).toNat) ∧ W.cell? ⟨bl, offl + 4 * k, none⟩ = some (.int .u32 (dk 0).toNat) ∧ W.cell? ⟨bl, offl + 4 * k + 1, none⟩ = some (.int .u32 (dk 1).toNat) ∧ W.cell? ⟨bl, offl + 4 * k + 2, none⟩ = some (.int .u32 (dk 2).toNat) ∧ W.cell? ⟨bl, offl + 4 * k + 3, none⟩ = some (.int .u32 (dk 3).toNat) ∧ W.cell? ⟨bp, offp + m, none⟩ = some (.int .i64 pm) ∧ W.cell? ⟨bp, offp + n, none⟩ = some (.int .i64 pn) ∧ Sr w x y P (some ⟨bl, offl, none⟩) (some ⟨bp, offp, none⟩) ls.length c ps.length e C g4 c4 (swp ls i k di dk) D h5 e5 (swp ps m n pm pn) W) := fun W h => by
    obtain ⟨⟨a0, a1, a2, a3, a4, a5, a6, a7⟩, _⟩ := h.sq.sw.a.all8
    obtain ⟨⟨b0, b1, b2, b3, b4, b5, b6, b7⟩, _⟩ := h.sq.cb.all8
    obtain ⟨⟨c0, c1, c2, c3, c4', c5, c6, c7⟩, _⟩ := h.sq.sw.b.all8
    obtain ⟨⟨d0, d1, d2, d3, d4, d5, d6, d7⟩, _⟩ := h.db.all8
    obtain ⟨u0, u1, u2, u3⟩ := HCI.out W h.sq.sw.bel
    obtain ⟨v0, v1, v2, v3⟩ := HCK.out W h.sq.sw.bel
    exact ⟨a0, a1, a2, a3, a4, a5, a6, a7, b0, b1, b2, b3, b4, b5, b6, b7, c0, c1, c2, c3, c4', c5, c6, c7, d0, d1, d2, d3, d4, d5, d6, d7, u0, u1, u2, u3, v0, v1, v2, v3, HCM.out W h.sq.sw.bel, HCN.out W h.sq.sw.bel, h⟩
  obtain ⟨E1, hE1⟩ : ∃ E, eqD di dk = E := ⟨_, rfl⟩
  obtain ⟨E2, hE2⟩ : ∃ E, (pm == pn) = E := ⟨_, rfl⟩
  have q1 : eqDs ls (swp ls i k di dk) = E1 := by
    have := eqDs_swp ls i k hil hkl
    rw [HDI.out, HDK.out] at this
    rw [this, hE1]
  have q2 : decide (ps = swp ps m n pm pn) = E2 := by
    have := eq_swp ps m n hml hnl
    rw [HPM.out, HPN.out] at this
    rw [this, hE2]
  have hcmp1 : (s1.toList == s2.toList) = E1 := by
    rw [text_toList, text_toList, hs1.out, hs2.out, ← q1, Bool.eq_iff_iff, beq_iff_eq, bytesR_eq]
    constructor
    · intro h
      have h2 := words_inj HR.out HRC.out h
      unfold sameR at h2
      simp only [Bool.and_eq_true] at h2
      exact h2.2.2.2.2
    · intro h
      refine words_same ?_
      unfold sameR
      rw [h, show eqD (fun _ => 0) (fun _ => 0) = true from eqD_self _]
      rfl
  have hcmp2 : (s3.toList == s4.toList) = E2 := by
    rw [text_toList, text_toList, hs3.out, hs4.out, ← q2, Bool.eq_iff_iff, beq_iff_eq, bytesR_eq, decide_eq_true_iff]
    constructor
    · intro h
      have h2 := words_inj HR'.out HRD.out h
      unfold sameR at h2
      simp only [Bool.and_eq_true, decide_eq_true_eq] at h2
      exact h2.2.2.2.1
    · intro h
      rw [← h]
  have z12 : s1.size = s2.size := by
    have e1 : s1.data.toList.length = s1.size := rfl
    have e2 : s2.data.toList.length = s2.size := rfl
    rw [← e1, ← e2, hs1.out, hs2.out]
    unfold bytesR
    rw [List.length_cons, List.length_cons, leBytes_length, leBytes_length, wordsR_len, wordsR_len, swp_len]
  have z34 : s3.size = s4.size := by
    have e1 : s3.data.toList.length = s3.size := rfl
    have e2 : s4.data.toList.length = s4.size := rfl
    rw [← e1, ← e2, hs3.out, hs4.out]
    unfold bytesR
    rw [List.length_cons, List.length_cons, leBytes_length, leBytes_length, wordsR_len, wordsR_len, swp_len]
  have z1p : 0 < s1.size := by
    have e1 : s1.data.toList.length = s1.size := rfl
    rw [← e1, hs1.out]
    exact Nat.succ_pos _
  have zb12 : ((s1.size : Int) == s2.size) = true := by rw [beq_iff_eq]; omega
  have zb34 : ((s3.size : Int) == s4.size) = true := by rw [beq_iff_eq]; omega
  have zb12n : (s1.size == s2.size) = true := by rw [beq_iff_eq]; exact z12
  have zb34n : (s3.size == s4.size) = true := by rw [beq_iff_eq]; exact z34
  have zpI : (0 : Int) < s1.size := by omega
  have heq := eqD_run di dk
  rw [hE1] at heq
  unfold dgv at heq
  simp only [wv] at heq
  have kA : ∀ W : World, Sr w x y P (some ⟨bl, offl, none⟩) (some ⟨bp, offp, none⟩) ls.length c ps.length e C g4 c4 (swp ls i k di dk) D h5 e5 (swp ps m n pm pn) W → Calls Tryd.prog 22 #[.agg #[.int .i64 6, .int .u32 0, .int .u32 0, .int .u32 0, .int .u32 0, .slice none 0 0, .slice (some ⟨bl, offl, none⟩) ls.length c, .int .i64 0], .agg #[.int .i64 6, .int .u32 0, .int .u32 0, .int .u32 0, .int .u32 0, .slice none 0 0, .slice (some ⟨g4, 0, none⟩) ls.length c4, .int .i64 0]] W fun r w' => r = .returned (.bool E1) ∧ Below W.heap.size W w' := fun W h =>
    rsw_SameA bl offl g4 ls (swp ls i k di dk) ls.length c c4 W rfl (swp_len _ _ _ _ _).symm (by omega) ((hd.below h.sq.sw.bel).more h.sq.sw.bel.size) (Sd.of_own h.sq.row) q1
  have kB : ∀ W : World, Sr w x y P (some ⟨bl, offl, none⟩) (some ⟨bp, offp, none⟩) ls.length c ps.length e C g4 c4 (swp ls i k di dk) D h5 e5 (swp ps m n pm pn) W → Calls Tryd.prog 22 #[.agg #[.int .i64 3, .int .u32 0, .int .u32 0, .int .u32 0, .int .u32 0, .slice (some ⟨bp, offp, none⟩) ps.length e, .slice (some ⟨P + 1, 0, none⟩) 1 1, .int .i64 0], .agg #[.int .i64 3, .int .u32 0, .int .u32 0, .int .u32 0, .int .u32 0, .slice (some ⟨h5, 0, none⟩) ps.length e5, .slice (some ⟨P + 1, 0, none⟩) 1 1, .int .i64 0]] W fun r w' => r = .returned (.bool E2) ∧ Below W.heap.size W w' := fun W h =>
    rsw_SameB (some ⟨bp, offp, none⟩) (some ⟨h5, 0, none⟩) ps (swp ps m n pm pn) ps.length e e5 (P + 1) W rfl (swp_len _ _ _ _ _).symm (by omega) ((hs.below h.sq.sw.bel).more h.sq.sw.bel.size) (by
      obtain ⟨A', c', e', _, _, h2⟩ := Sl.of_own h.row
      injection e' with e' _ _
      subst e'
      exact h2) (sd7 h.sq.sw.d) q2
  have KAA := Lib.hid kA
  have KBB := Lib.hid kB
  clear kA kB q1 q2 hE1 z12 z34 HCI HCK HCM HCN hs hd HRC HRD HR HR' HDI HDK HPM HPN hs1 hs2 hs3 hs4 lne pne l1F p1F hiI hkI hmI hnI xl yl l1I p1I hl20 hp20
  simp only [List.append_eq, List.cons_append, List.nil_append]
  go_region_held3 (fun w' => w'.cell? ⟨P, 0, none⟩ = some (.int .i64 6) ∧ w'.cell? ⟨P, 1, none⟩ = some (.int .u32 0) ∧ w'.cell? ⟨P, 2, none⟩ = some (.int .u32 0) ∧ w'.cell? ⟨P, 3, none⟩ = some (.int .u32 0) ∧ w'.cell? ⟨P, 4, none⟩ = some (.int .u32 0) ∧ w'.cell? ⟨P, 5, none⟩ = some (.slice none 0 0) ∧ w'.cell? ⟨P, 6, none⟩ = some (.slice (some ⟨bl, offl, none⟩) ls.length c) ∧ w'.cell? ⟨P, 7, none⟩ = some (.int .i64 0) ∧ w'.cell? ⟨C, 0, none⟩ = some (.int .i64 6) ∧ w'.cell? ⟨C, 1, none⟩ = some (.int .u32 0) ∧ w'.cell? ⟨C, 2, none⟩ = some (.int .u32 0) ∧ w'.cell? ⟨C, 3, none⟩ = some (.int .u32 0) ∧ w'.cell? ⟨C, 4, none⟩ = some (.int .u32 0) ∧ w'.cell? ⟨C, 5, none⟩ = some (.slice none 0 0) ∧ w'.cell? ⟨C, 6, none⟩ = some (.slice (some ⟨g4, 0, none⟩) ls.length c4) ∧ w'.cell? ⟨C, 7, none⟩ = some (.int .i64 0) ∧ w'.cell? ⟨P + 1 + 1, 0, none⟩ = some (.int .i64 3) ∧ w'.cell? ⟨P + 1 + 1, 1, none⟩ = some (.int .u32 0) ∧ w'.cell? ⟨P + 1 + 1, 2, none⟩ = some (.int .u32 0) ∧ w'.cell? ⟨P + 1 + 1, 3, none⟩ = some (.int .u32 0) ∧ w'.cell? ⟨P + 1 + 1, 4, none⟩ = some (.int .u32 0) ∧ w'.cell? ⟨P + 1 + 1, 5, none⟩ = some (.slice (some ⟨bp, offp, none⟩) ps.length e) ∧ w'.cell? ⟨P + 1 + 1, 6, none⟩ = some (.slice (some ⟨P + 1, 0, none⟩) 1 1) ∧ w'.cell? ⟨P + 1 + 1, 7, none⟩ = some (.int .i64 0) ∧ w'.cell? ⟨D, 0, none⟩ = some (.int .i64 3) ∧ w'.cell? ⟨D, 1, none⟩ = some (.int .u32 0) ∧ w'.cell? ⟨D, 2, none⟩ = some (.int .u32 0) ∧ w'.cell? ⟨D, 3, none⟩ = some (.int .u32 0) ∧ w'.cell? ⟨D, 4, none⟩ = some (.int .u32 0) ∧ w'.cell? ⟨D, 5, none⟩ = some (.slice (some ⟨h5, 0, none⟩) ps.length e5) ∧ w'.cell? ⟨D, 6, none⟩ = some (.slice (some ⟨P + 1, 0, none⟩) 1 1) ∧ w'.cell? ⟨D, 7, none⟩ = some (.int .i64 0) ∧ w'.cell? ⟨bl, offl + 4 * i, none⟩ = some (.int .u32 (di 0).toNat) ∧ w'.cell? ⟨bl, offl + 4 * i + 1, none⟩ = some (.int .u32 (di 1).toNat) ∧ w'.cell? ⟨bl, offl + 4 * i + 2, none⟩ = some (.int .u32 (di 2).toNat) ∧ w'.cell? ⟨bl, offl + 4 * i + 3, none⟩ = some (.int .u32 (di 3).toNat) ∧ w'.cell? ⟨bl, offl + 4 * k, none⟩ = some (.int .u32 (dk 0).toNat) ∧ w'.cell? ⟨bl, offl + 4 * k + 1, none⟩ = some (.int .u32 (dk 1).toNat) ∧ w'.cell? ⟨bl, offl + 4 * k + 2, none⟩ = some (.int .u32 (dk 2).toNat) ∧ w'.cell? ⟨bl, offl + 4 * k + 3, none⟩ = some (.int .u32 (dk 3).toNat) ∧ w'.cell? ⟨bp, offp + m, none⟩ = some (.int .i64 pm) ∧ w'.cell? ⟨bp, offp + n, none⟩ = some (.int .i64 pn) ∧ Sr w x y P (some ⟨bl, offl, none⟩) (some ⟨bp, offp, none⟩) ls.length c ps.length e C g4 c4 (swp ls i k di dk) D h5 e5 (swp ps m n pm pn) w') ((refine HELD.out _ ?_; repeat (first | assumption | (refine Sr.drew ?_))))
    ((first
      | (go_at_call 22; (with_reducible refine (KAA.out _ hr7.drew).mono ?_); rintro e w15 ⟨rfl, hb⟩; have hr8 := Sr.below hr7.drew hb; clear hb)
      | (go_at_call 22; (with_reducible refine (KBB.out _ hr8).mono ?_); rintro e w16 ⟨rfl, hb⟩; have hr9 := Sr.below hr8 hb; clear hb)))
  go_wp2_with fail
  go_returns
  exact ⟨rfl, hr9.sq.sw.bel⟩
end Go.Proofs.YtdkkomcokefkhaaDoor
