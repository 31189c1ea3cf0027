/- Layer 3, plain: states of eight words, and the two laid tables. -/
import Derived.Test.YtdkkomcokefkhaaDoorPw
import Derived.Test.YtdkkomcokefkhaaDoorLib
namespace Go.Proofs.YtdkkomcokefkhaaDoor
open Go.RowKit

/-- A state, as values. -/
def stv (f : Nat → UInt32) : Array Value := #[wv (f 0), wv (f 1), wv (f 2), wv (f 3), wv (f 4), wv (f 5), wv (f 6), wv (f 7)]
/-- A digest, or a block, as values. -/
def dgv (f : Nat → UInt32) : Array Value := #[wv (f 0), wv (f 1), wv (f 2), wv (f 3)]
abbrev zero8 : Array Value := #[.int .u32 0, .int .u32 0, .int .u32 0, .int .u32 0, .int .u32 0, .int .u32 0, .int .u32 0, .int .u32 0]
def sup (f : Nat → UInt32) (i : Nat) (v : UInt32) : Nat → UInt32 := fun j => if j = i then v else f j
def turnAt (i : Nat) : Int := if i = 0 then 7 else if i = 1 then 9 else if i = 2 then 13 else 18
def mixIn (f : Nat → UInt32) (i : Nat) : Nat → UInt32 := sup (sup f i (f i + f (i + 4))) (i + 4) (turnW (f (i + 4) ^^^ (f i + f (i + 4))) (turnAt i))
def mixIns (f : Nat → UInt32) : Nat → Nat → UInt32
  | 0 => f
  | i + 1 => mixIn (mixIns f i) i
/-- The first j words are those that stand three further on in g. -/
def rotTo (f g : Nat → UInt32) (j : Nat) : Nat → UInt32 := fun k => if k < j then g ((k + 3) % 8) else f k
def rot3 (g : Nat → UInt32) : Nat → UInt32 := fun k => g ((k + 3) % 8)
def mixR (f : Nat → UInt32) (r : Nat) : Nat → UInt32 := rot3 (mixIns (sup f 0 (f 0 + 2654435769 * (UInt32.ofNat r + 1))) 4)
def mixN (f : Nat → UInt32) : Nat → Nat → UInt32
  | 0 => f
  | r + 1 => mixR (mixN f r) r
def mix (f : Nat → UInt32) : Nat → UInt32 := mixN f 8

def unIn (f : Nat → UInt32) (i : Nat) : Nat → UInt32 := sup (sup f (i + 4) (turnW (f (i + 4)) (-turnAt i) ^^^ f i)) i (f i - (turnW (f (i + 4)) (-turnAt i) ^^^ f i))
def unIns (f : Nat → UInt32) : Nat → Nat → UInt32
  | 0 => f
  | n + 1 => unIn (unIns f n) (3 - n)
/-- The words that stand at 3, 4 .. are the first j ones of g. -/
def backTo (f g : Nat → UInt32) (j : Nat) : Nat → UInt32 := fun k => if k < 8 ∧ (k + 5) % 8 < j then g ((k + 5) % 8) else f k
def back3 (g : Nat → UInt32) : Nat → UInt32 := fun k => g ((k + 5) % 8)
def unR (f : Nat → UInt32) (r : Nat) : Nat → UInt32 := sup (unIns (back3 f) 4) 0 (unIns (back3 f) 4 0 - 2654435769 * (UInt32.ofNat r + 1))
def unN (f : Nat → UInt32) : Nat → Nat → UInt32
  | 0 => f
  | n + 1 => unR (unN f n) (7 - n)
def unmix (f : Nat → UInt32) : Nat → UInt32 := unN f 8
theorem backTo_zero (f g : Nat → UInt32) : backTo f g 0 = f := by funext k; unfold backTo; rw [if_neg (by omega)]
theorem backTo_step (f g : Nat → UInt32) (j : Nat) (hj : j < 8) : sup (backTo f g j) ((j + 3) % 8) (g j) = backTo f g (j + 1) := by
  funext k
  unfold sup backTo
  by_cases h : k = (j + 3) % 8
  · have hk : (k + 5) % 8 = j := by omega
    rw [if_pos h, if_pos (by omega), hk]
  · rw [if_neg h]
    by_cases h2 : k < 8 ∧ (k + 5) % 8 < j
    · rw [if_pos h2, if_pos (by omega)]
    · rw [if_neg h2, if_neg (by omega)]

theorem stv_get (f : Nat → UInt32) (i : Nat) (h : i < 8) : (stv f)[i]? = some (wv (f i)) := by
  unfold stv
  match i, h with
  | 0, _ | 1, _ | 2, _ | 3, _ | 4, _ | 5, _ | 6, _ | 7, _ => rfl
theorem stv_set (f : Nat → UInt32) (i : Nat) (v : UInt32) (h : i < 8) : (stv f).setIfInBounds i (wv v) = stv (sup f i v) := by
  match i, h with
  | 0, _ | 1, _ | 2, _ | 3, _ | 4, _ | 5, _ | 6, _ | 7, _ => rfl
theorem dgv_get (f : Nat → UInt32) (i : Nat) (h : i < 4) : (dgv f)[i]? = some (wv (f i)) := by
  match i, h with
  | 0, _ | 1, _ | 2, _ | 3, _ => rfl
theorem stv_ext {f g : Nat → UInt32} (h : ∀ k, k < 8 → f k = g k) : stv f = stv g := by
  unfold stv
  rw [h 0 (by decide), h 1 (by decide), h 2 (by decide), h 3 (by decide), h 4 (by decide), h 5 (by decide), h 6 (by decide), h 7 (by decide)]
theorem rotTo_zero (f g : Nat → UInt32) : rotTo f g 0 = f := by funext k; unfold rotTo; rw [if_neg (by omega)]
theorem rotTo_step (f g : Nat → UInt32) (j : Nat) : sup (rotTo f g j) j (g ((j + 3) % 8)) = rotTo f g (j + 1) := by
  funext k
  unfold sup rotTo
  by_cases h : k = j
  · subst h; rw [if_pos rfl, if_pos (by omega)]
  · rw [if_neg h]
    by_cases h2 : k < j
    · rw [if_pos h2, if_pos (by omega)]
    · rw [if_neg h2, if_neg (by omega)]
theorem back_end (f g : Nat → UInt32) : stv (backTo f g 8) = stv (back3 g) := stv_ext fun k hk => by unfold backTo back3; rw [if_pos (by omega)]
theorem rot_end (f g : Nat → UInt32) : stv (rotTo f g 8) = stv (rot3 g) := stv_ext fun k hk => by unfold rotTo rot3; rw [if_pos hk]

/-- A state in a box. -/
def St (w : World) (g : Nat) (f : Nat → UInt32) : Prop := Blk w g 56 (stv f)
section
variable {w w' : World} {g : Nat} {f : Nat → UInt32}
theorem St.cell (h : St w g f) (i : Nat) (hi : i < 8) : w.cell? ⟨g, i, none⟩ = some (.int .u32 (f i).toNat) := (Blk.cell h i).trans (stv_get f i hi)
theorem St.frozen (h : St w g f) (i : Nat) : w.frozen? ⟨g, i, none⟩ = false := Blk.frozen h i
theorem St.set (h : St w g f) (i : Nat) (hi : i < 8) (v : UInt32) : St (w.setCell ⟨g, i, none⟩ (.int .u32 v.toNat)) g (sup f i v) := by
  have := Blk.set h i (wv v)
  rw [stv_set f i v hi] at this
  exact this
theorem St.below {B : Nat} (h : St w g f) (hb : Below B w w') (hg : g < B) : St w' g f := Blk.below h hb hg
theorem St.drewN (h : St w g f) (n : Nat) : St (w.drewN n) g f := h
theorem St.drew (h : St w g f) : St w.drew g f := h
theorem St.far (h : St w g f) {p : Addr} (hp : g ≠ p.block) (u : Value) : St (w.setCell p u) g f := Blk.far h hp u
theorem St.alloc (h : St w g f) (o : Obj) : St (w.alloc o) g f := Blk.alloc h o
theorem St.lt (h : St w g f) : g < w.heap.size := Blk.lt h
end
/-- A state in the box that a call makes first, and its result's box behind it. -/
structure Mx (w : World) (f : Nat → UInt32) (W : World) : Prop where
  st : St W w.heap.size f
  z : Blk W (w.heap.size + 1) 56 zero8
  bel : Below w.heap.size w W
section
variable {w W W' : World} {f : Nat → UInt32}
theorem Mx.new (w : World) (f : Nat → UInt32) : Mx w f ((w.alloc (.cells (stv f) 56)).alloc (.cells zero8 56)) :=
  ⟨(Blk.new w _ _).alloc _, by have h := Blk.new (w.alloc (.cells (stv f) 56)) 56 zero8; simpa using h, ((Below.refl _ w).alloc (Nat.le_refl _) _).alloc (by simp) _⟩
theorem Mx.set (h : Mx w f W) (i : Nat) (hi : i < 8) (v : UInt32) : Mx w (sup f i v) (W.setCell ⟨w.heap.size, i, none⟩ (.int .u32 v.toNat)) :=
  ⟨h.st.set i hi v, h.z.far (p := ⟨w.heap.size, i, none⟩) (by simp) _, h.bel.setCell (p := ⟨w.heap.size, i, none⟩) (Nat.le_refl _) _⟩
theorem Mx.drew (h : Mx w f W) : Mx w f W.drew := ⟨h.st.drew, h.z.drew, h.bel.drew⟩
theorem Mx.alloc (h : Mx w f W) (o : Obj) : Mx w f (W.alloc o) := ⟨h.st.alloc o, h.z.alloc o, h.bel.alloc h.bel.size o⟩
theorem Mx.far (h : Mx w f W) {p : Addr} (hp : w.heap.size + 1 < p.block) (u : Value) : Mx w f (W.setCell p u) :=
  ⟨h.st.far (by omega) u, h.z.far (by omega) u, h.bel.setCell (by omega) u⟩
theorem Mx.back {H : Nat → UInt32} (h : Mx w (backTo f H 8) W) : Mx w (back3 H) W := ⟨by have := h.st; unfold St at this; rw [back_end] at this; exact this, h.z, h.bel⟩
theorem Mx.rot {H : Nat → UInt32} (h : Mx w (rotTo f H 8) W) : Mx w (rot3 H) W := ⟨by have := h.st; unfold St at this; rw [rot_end] at this; exact this, h.z, h.bel⟩
theorem Mx.below (h : Mx w f W) (hb : Below W.heap.size W W') : Mx w f W' := ⟨h.st.below hb h.st.lt, h.z.below hb h.z.lt, h.bel.trans (hb.mono h.bel.size)⟩
end
/-- The result's box, filled. -/
theorem Blk.fill {w : World} {g : Nat} {t : TypeId} {z0 z1 z2 z3 z4 z5 z6 z7 : Value} (h : Blk w g t #[z0, z1, z2, z3, z4, z5, z6, z7]) (v0 v1 v2 v3 v4 v5 v6 v7 : Value) :
    Blk ((((((((w.setCell ⟨g, 0, none⟩ v0).setCell ⟨g, 1, none⟩ v1).setCell ⟨g, 2, none⟩ v2).setCell ⟨g, 3, none⟩ v3).setCell ⟨g, 4, none⟩ v4).setCell ⟨g, 5, none⟩ v5).setCell ⟨g, 6, none⟩ v6).setCell ⟨g, 7, none⟩ v7) g t #[v0, v1, v2, v3, v4, v5, v6, v7] := by
  have h8 := (((((((h.set 0 v0).set 1 v1).set 2 v2).set 3 v3).set 4 v4).set 5 v5).set 6 v6).set 7 v7
  simpa only [List.setIfInBounds_toArray, List.set_cons_zero, List.set_cons_succ] using h8
theorem Mx.fill {w W : World} {f : Nat → UInt32} (h : Mx w f W) (R : Nat → UInt32) : Mx w R (((((((((W).setCell ⟨w.heap.size, 0, none⟩ (.int .u32 (R 0).toNat)).setCell ⟨w.heap.size, 1, none⟩ (.int .u32 (R 1).toNat)).setCell ⟨w.heap.size, 2, none⟩ (.int .u32 (R 2).toNat)).setCell ⟨w.heap.size, 3, none⟩ (.int .u32 (R 3).toNat)).setCell ⟨w.heap.size, 4, none⟩ (.int .u32 (R 4).toNat)).setCell ⟨w.heap.size, 5, none⟩ (.int .u32 (R 5).toNat)).setCell ⟨w.heap.size, 6, none⟩ (.int .u32 (R 6).toNat)).setCell ⟨w.heap.size, 7, none⟩ (.int .u32 (R 7).toNat)) :=
  ⟨Blk.fill h.st (wv (R 0)) (wv (R 1)) (wv (R 2)) (wv (R 3)) (wv (R 4)) (wv (R 5)) (wv (R 6)) (wv (R 7)),
   ((((((((h.z).far (p := ⟨w.heap.size, 0, none⟩) (by simp) _).far (p := ⟨w.heap.size, 1, none⟩) (by simp) _).far (p := ⟨w.heap.size, 2, none⟩) (by simp) _).far (p := ⟨w.heap.size, 3, none⟩) (by simp) _).far (p := ⟨w.heap.size, 4, none⟩) (by simp) _).far (p := ⟨w.heap.size, 5, none⟩) (by simp) _).far (p := ⟨w.heap.size, 6, none⟩) (by simp) _).far (p := ⟨w.heap.size, 7, none⟩) (by simp) _,
   ((((((((h.bel).setCell (p := ⟨w.heap.size, 0, none⟩) (Nat.le_refl _) _).setCell (p := ⟨w.heap.size, 1, none⟩) (Nat.le_refl _) _).setCell (p := ⟨w.heap.size, 2, none⟩) (Nat.le_refl _) _).setCell (p := ⟨w.heap.size, 3, none⟩) (Nat.le_refl _) _).setCell (p := ⟨w.heap.size, 4, none⟩) (Nat.le_refl _) _).setCell (p := ⟨w.heap.size, 5, none⟩) (Nat.le_refl _) _).setCell (p := ⟨w.heap.size, 6, none⟩) (Nat.le_refl _) _).setCell (p := ⟨w.heap.size, 7, none⟩) (Nat.le_refl _) _⟩
/-- The result's box, filled. -/
theorem Mx.out {w W : World} {f : Nat → UInt32} (h : Mx w f W) (R : Nat → UInt32) : ∃ W8, W8 = ((((((((W).setCell ⟨w.heap.size + 1, 0, none⟩ (.int .u32 (R 0).toNat)).setCell ⟨w.heap.size + 1, 1, none⟩ (.int .u32 (R 1).toNat)).setCell ⟨w.heap.size + 1, 2, none⟩ (.int .u32 (R 2).toNat)).setCell ⟨w.heap.size + 1, 3, none⟩ (.int .u32 (R 3).toNat)).setCell ⟨w.heap.size + 1, 4, none⟩ (.int .u32 (R 4).toNat)).setCell ⟨w.heap.size + 1, 5, none⟩ (.int .u32 (R 5).toNat)).setCell ⟨w.heap.size + 1, 6, none⟩ (.int .u32 (R 6).toNat)).setCell ⟨w.heap.size + 1, 7, none⟩ (.int .u32 (R 7).toNat) ∧ Blk W8 (w.heap.size + 1) 56 (stv R) ∧ Below w.heap.size w W8 :=
  ⟨_, rfl, Blk.fill h.z (wv (R 0)) (wv (R 1)) (wv (R 2)) (wv (R 3)) (wv (R 4)) (wv (R 5)) (wv (R 6)) (wv (R 7)),
   ((((((((h.bel).setCell (p := ⟨w.heap.size + 1, 0, none⟩) (Nat.le_succ _) _).setCell (p := ⟨w.heap.size + 1, 1, none⟩) (Nat.le_succ _) _).setCell (p := ⟨w.heap.size + 1, 2, none⟩) (Nat.le_succ _) _).setCell (p := ⟨w.heap.size + 1, 3, none⟩) (Nat.le_succ _) _).setCell (p := ⟨w.heap.size + 1, 4, none⟩) (Nat.le_succ _) _).setCell (p := ⟨w.heap.size + 1, 5, none⟩) (Nat.le_succ _) _).setCell (p := ⟨w.heap.size + 1, 6, none⟩) (Nat.le_succ _) _).setCell (p := ⟨w.heap.size + 1, 7, none⟩) (Nat.le_succ _) _⟩
/-- A fact of the world at hand is all that is kept of it. -/
theorem world_gen {Q R : World → Prop} (w : World) (h : R w) (k : ∀ w', R w' → Q w') : Q w := k w h
end Go.Proofs.YtdkkomcokefkhaaDoor
