/- Layer 3: a digest is read of its text, walked. -/
import Derived.Test.YtdkkomcokefkhaaDoorDgX
namespace Go.Proofs.YtdkkomcokefkhaaDoor
open Go.RowKit

@[local go_sem] theorem or_be1 (x y : UInt8) : bits .or .u32 ((x.toNat : Int) * 16777216) ((y.toNat : Int) * 65536) = (x.toNat : Int) * 16777216 + y.toNat * 65536 := by
  have := x.toNat_lt; have := y.toNat_lt
  rw [show (x.toNat : Int) * 16777216 = ((x.toNat * 16777216 : Nat) : Int) by omega, show (y.toNat : Int) * 65536 = ((y.toNat * 65536 : Nat) : Int) by omega, u32_or_nat _ _ (by omega) (by omega), nat_join 24 _ _ (by omega) (by omega)]
  omega
@[local go_sem] theorem or_be2 (x y z : UInt8) : bits .or .u32 ((x.toNat : Int) * 16777216 + y.toNat * 65536) ((z.toNat : Int) * 256) = (x.toNat : Int) * 16777216 + y.toNat * 65536 + z.toNat * 256 := by
  have := x.toNat_lt; have := y.toNat_lt; have := z.toNat_lt
  rw [show (x.toNat : Int) * 16777216 + y.toNat * 65536 = ((x.toNat * 16777216 + y.toNat * 65536 : Nat) : Int) by omega, show (z.toNat : Int) * 256 = ((z.toNat * 256 : Nat) : Int) by omega, u32_or_nat _ _ (by omega) (by omega), nat_join 16 _ _ (by omega) (by omega)]
  omega
@[local go_sem] theorem or_be3 (x y z u : UInt8) : bits .or .u32 ((x.toNat : Int) * 16777216 + y.toNat * 65536 + z.toNat * 256) (u.toNat : Int) = ((word4 u z y x).toNat : Int) := by
  have := x.toNat_lt; have := y.toNat_lt; have := z.toNat_lt; have := u.toNat_lt
  rw [word4_toNat, show (x.toNat : Int) * 16777216 + y.toNat * 65536 + z.toNat * 256 = ((x.toNat * 16777216 + y.toNat * 65536 + z.toNat * 256 : Nat) : Int) by omega, u32_or_nat _ _ (by omega) (by omega), nat_join 8 _ _ (by omega) (by omega)]
  omega

/-- The first i words are those of the bytes l. -/
def deTo (l : List UInt8) (i : Nat) : Nat → UInt32 := fun k => if k < i then deB l k else 0
theorem dgv_set (f : Nat → UInt32) (i : Nat) (v : UInt32) (h : i < 4) : (dgv f).setIfInBounds i (wv v) = dgv (sup f i v) := by
  match i, h with
  | 0, _ | 1, _ | 2, _ | 3, _ => rfl
theorem deTo_step (l : List UInt8) (i : Nat) : sup (deTo l i) i (deB l i) = deTo l (i + 1) := by
  funext k
  unfold sup deTo
  by_cases h : k = i
  · subst h; rw [if_pos rfl, if_pos (by omega)]
  · rw [if_neg h]
    by_cases h2 : k < i
    · rw [if_pos h2, if_pos (by omega)]
    · rw [if_neg h2, if_neg (by omega)]
theorem deTo_zero (l : List UInt8) : deTo l 0 = fun _ => 0 := by funext k; unfold deTo; rw [if_neg (by omega)]
theorem dgv_ext {f g : Nat → UInt32} (h : ∀ k, k < 4 → f k = g k) : dgv f = dgv g := by
  unfold dgv
  rw [h 0 (by decide), h 1 (by decide), h 2 (by decide), h 3 (by decide)]
theorem deTo_end (l : List UInt8) : dgv (deTo l 4) = dgv (deB l) := dgv_ext fun k hk => by unfold deTo; rw [if_pos hk]
theorem deB_get (s : ByteArray) (k : Nat) (h : 4 * k + 3 < s.size) : deB s.data.toList k = word4 (s[4 * k + 3]'h) (s[4 * k + 2]'(by omega)) (s[4 * k + 1]'(by omega)) (s[4 * k]'(by omega)) := by
  have hl : s.data.toList.length = s.size := rfl
  unfold deB
  rw [List.getD_eq_getElem?_getD, List.getD_eq_getElem?_getD, List.getD_eq_getElem?_getD, List.getD_eq_getElem?_getD, List.getElem?_eq_getElem (by omega), List.getElem?_eq_getElem (by omega), List.getElem?_eq_getElem (by omega), List.getElem?_eq_getElem (by omega)]
  rfl

theorem Blk.out4 {w W : World} {g : Nat} {t : TypeId} {z0 z1 z2 z3 : Value} (h : Blk W g t #[z0, z1, z2, z3]) (hb : Below w.heap.size w W) (hg : w.heap.size ≤ g) (v0 v1 v2 v3 : Value) :
    ∃ W4, W4 = (((W.setCell ⟨g, 0, none⟩ v0).setCell ⟨g, 1, none⟩ v1).setCell ⟨g, 2, none⟩ v2).setCell ⟨g, 3, none⟩ v3 ∧ Blk W4 g t #[v0, v1, v2, v3] ∧ Below w.heap.size w W4 := by
  refine ⟨_, rfl, ?_, (((hb.setCell (p := ⟨g, 0, none⟩) hg _).setCell (p := ⟨g, 1, none⟩) hg _).setCell (p := ⟨g, 2, none⟩) hg _).setCell (p := ⟨g, 3, none⟩) hg _⟩
  have h4 := (((h.set 0 v0).set 1 v1).set 2 v2).set 3 v3
  simpa only [List.setIfInBounds_toArray, List.set_cons_zero, List.set_cons_succ] using h4
theorem parse_len {s : ByteArray} (hs : s.size = 32) (hp : (parseI s.data.toList).2.2 = true) : (parseI s.data.toList).1.length = 16 := by
  have hl : s.data.toList.length = 32 := hs
  unfold parseI at hp ⊢
  split at hp
  · cases hp
  · rename_i h
    split at hp
    · cases hp
    · rename_i h2
      rw [if_neg h2]
      dsimp only
      rw [pairs_length, hl]

end Go.Proofs.YtdkkomcokefkhaaDoor
