/- Layer 3, plain: mixed and unmixed any state is as it was. -/
import Derived.Test.YtdkkomcokefkhaaDoorDg
namespace Go.Proofs.YtdkkomcokefkhaaDoor
open Go.RowKit

/-- Alike in the eight words of a state. -/
def Eq8 (f g : Nat → UInt32) : Prop := ∀ k, k < 8 → f k = g k
theorem Eq8.refl (f : Nat → UInt32) : Eq8 f f := fun _ _ => rfl
theorem Eq8.symm {f g : Nat → UInt32} (h : Eq8 f g) : Eq8 g f := fun k hk => (h k hk).symm
theorem Eq8.trans {f g e : Nat → UInt32} (h : Eq8 f g) (h2 : Eq8 g e) : Eq8 f e := fun k hk => (h k hk).trans (h2 k hk)
theorem Eq8.stv {f g : Nat → UInt32} (h : Eq8 f g) : stv f = stv g := stv_ext h
theorem Eq8.sup {f g : Nat → UInt32} (h : Eq8 f g) (i : Nat) {v u : UInt32} (hv : v = u) : Eq8 (sup f i v) (sup g i u) := by
  intro k hk; unfold Proofs.YtdkkomcokefkhaaDoor.sup; rw [hv]; split
  · rfl
  · exact h k hk
theorem Eq8.mixIn {f g : Nat → UInt32} (h : Eq8 f g) (i : Nat) (hi : i < 4) : Eq8 (mixIn f i) (mixIn g i) := by
  unfold Proofs.YtdkkomcokefkhaaDoor.mixIn
  have a := h i (by omega); have b := h (i + 4) (by omega)
  exact (h.sup i (by rw [a, b])).sup (i + 4) (by rw [a, b])
theorem Eq8.unIn {f g : Nat → UInt32} (h : Eq8 f g) (i : Nat) (hi : i < 4) : Eq8 (unIn f i) (unIn g i) := by
  unfold Proofs.YtdkkomcokefkhaaDoor.unIn
  have a := h i (by omega); have b := h (i + 4) (by omega)
  exact (h.sup (i + 4) (by rw [a, b])).sup i (by rw [a, b])
theorem Eq8.mixIns {f g : Nat → UInt32} (h : Eq8 f g) : Eq8 (mixIns f 4) (mixIns g 4) :=
  (((h.mixIn 0 (by decide)).mixIn 1 (by decide)).mixIn 2 (by decide)).mixIn 3 (by decide)
theorem Eq8.unIns {f g : Nat → UInt32} (h : Eq8 f g) : Eq8 (unIns f 4) (unIns g 4) :=
  (((h.unIn 3 (by decide)).unIn 2 (by decide)).unIn 1 (by decide)).unIn 0 (by decide)
theorem Eq8.rot {f g : Nat → UInt32} (h : Eq8 f g) : Eq8 (rot3 f) (rot3 g) := fun k _ => h _ (by omega)
theorem Eq8.back {f g : Nat → UInt32} (h : Eq8 f g) : Eq8 (back3 f) (back3 g) := fun k _ => h _ (by omega)
theorem Eq8.mixR {f g : Nat → UInt32} (h : Eq8 f g) (r : Nat) : Eq8 (mixR f r) (mixR g r) := by
  unfold Proofs.YtdkkomcokefkhaaDoor.mixR
  exact (h.sup 0 (by rw [h 0 (by decide)])).mixIns.rot
theorem Eq8.unR {f g : Nat → UInt32} (h : Eq8 f g) (r : Nat) : Eq8 (unR f r) (unR g r) := by
  unfold Proofs.YtdkkomcokefkhaaDoor.unR
  have a := h.back.unIns
  exact a.sup 0 (by rw [a 0 (by decide)])
theorem Eq8.mixN {f g : Nat → UInt32} (h : Eq8 f g) (n : Nat) : Eq8 (mixN f n) (mixN g n) := by
  induction n with
  | zero => exact h
  | succ n ih => exact ih.mixR n
theorem Eq8.unN {f g : Nat → UInt32} (h : Eq8 f g) (n : Nat) : Eq8 (unN f n) (unN g n) := by
  induction n with
  | zero => exact h
  | succ n ih => exact ih.unR (7 - n)

theorem turn_back (x : UInt32) (t : Int) : turnW (turnW x t) (-t) = x := by
  rw [turnW_turnW x t (-t) 0 (by omega)]; exact turnW_zero x 0 rfl
theorem turn_back2 (x : UInt32) (t : Int) : turnW (turnW x (-t)) t = x := by
  rw [turnW_turnW x (-t) t 0 (by omega)]; exact turnW_zero x 0 rfl
theorem un_mix_in (f : Nat → UInt32) (i : Nat) : Eq8 (unIn (mixIn f i) i) f := by
  have hi : mixIn f i i = f i + f (i + 4) := by unfold mixIn sup; rw [if_neg (by omega), if_pos rfl]
  have h4 : mixIn f i (i + 4) = turnW (f (i + 4) ^^^ (f i + f (i + 4))) (turnAt i) := by unfold mixIn sup; rw [if_pos rfl]
  have hb : turnW (mixIn f i (i + 4)) (-turnAt i) ^^^ mixIn f i i = f (i + 4) := by rw [h4, hi, turn_back, UInt32.xor_assoc, UInt32.xor_self, UInt32.xor_zero]
  intro k _
  unfold unIn
  rw [hb, hi]
  unfold sup
  by_cases h : k = i
  · rw [if_pos h, h, UInt32.add_sub_cancel]
  · rw [if_neg h]
    by_cases h2 : k = i + 4
    · rw [if_pos h2, h2]
    · rw [if_neg h2]
      unfold mixIn sup
      rw [if_neg h2, if_neg h]
theorem mix_un_in (f : Nat → UInt32) (i : Nat) : Eq8 (mixIn (unIn f i) i) f := by
  have hi : unIn f i i = f i - (turnW (f (i + 4)) (-turnAt i) ^^^ f i) := by unfold unIn sup; rw [if_pos rfl]
  have h4 : unIn f i (i + 4) = turnW (f (i + 4)) (-turnAt i) ^^^ f i := by unfold unIn sup; rw [if_neg (by omega), if_pos rfl]
  have ha : unIn f i i + unIn f i (i + 4) = f i := by rw [hi, h4, UInt32.sub_add_cancel]
  intro k _
  unfold mixIn
  rw [ha, h4]
  unfold sup
  by_cases h2 : k = i + 4
  · rw [if_pos h2, h2, UInt32.xor_assoc, UInt32.xor_self, UInt32.xor_zero, turn_back2]
  · rw [if_neg h2]
    by_cases h : k = i
    · rw [if_pos h, h]
    · rw [if_neg h]
      unfold unIn sup
      rw [if_neg h, if_neg h2]
theorem un_mix_ins (f : Nat → UInt32) : Eq8 (unIns (mixIns f 4) 4) f :=
  ((((((un_mix_in _ 3).unIn 2 (by decide)).trans (un_mix_in _ 2)).unIn 1 (by decide)).trans (un_mix_in _ 1)).unIn 0 (by decide)).trans (un_mix_in _ 0)
theorem mix_un_ins (f : Nat → UInt32) : Eq8 (mixIns (unIns f 4) 4) f :=
  ((((((mix_un_in _ 0).mixIn 1 (by decide)).trans (mix_un_in _ 1)).mixIn 2 (by decide)).trans (mix_un_in _ 2)).mixIn 3 (by decide)).trans (mix_un_in _ 3)
theorem back_rot (f : Nat → UInt32) : Eq8 (back3 (rot3 f)) f := fun k hk => by unfold back3 rot3; rw [show ((k + 5) % 8 + 3) % 8 = k by omega]
theorem rot_back (f : Nat → UInt32) : Eq8 (rot3 (back3 f)) f := fun k hk => by unfold back3 rot3; dsimp only; rw [show ((k + 3) % 8 + 5) % 8 = k by omega]
theorem un_mix_r (f : Nat → UInt32) (r : Nat) : Eq8 (unR (mixR f r) r) f := by
  have hY := (back_rot (mixIns (sup f 0 (f 0 + 2654435769 * (UInt32.ofNat r + 1))) 4)).unIns.trans (un_mix_ins _)
  intro k hk
  unfold unR mixR
  unfold sup at hY ⊢
  by_cases h : k = 0
  · rw [if_pos h, hY 0 (by decide)]
    dsimp only
    rw [if_pos rfl, UInt32.add_sub_cancel, h]
  · rw [if_neg h, hY k hk]
    dsimp only
    rw [if_neg h]
theorem mix_un_r (f : Nat → UInt32) (r : Nat) : Eq8 (mixR (unR f r) r) f := by
  have hG : Eq8 (sup (unR f r) 0 (unR f r 0 + 2654435769 * (UInt32.ofNat r + 1))) (unIns (back3 f) 4) := by
    intro k hk
    unfold unR sup
    by_cases h : k = 0
    · rw [if_pos h, if_pos rfl, UInt32.sub_add_cancel, h]
    · rw [if_neg h, if_neg h]
  exact (hG.mixIns.trans (mix_un_ins _)).rot.trans (rot_back f)
theorem un_mix (f : Nat → UInt32) : Eq8 (unmix (mix f)) f := by
  have h : ∀ n, n ≤ 8 → Eq8 (unN (mixN f 8) n) (mixN f (8 - n)) := by
    intro n
    induction n with
    | zero => intro _; exact Eq8.refl _
    | succ n ih =>
      intro hn
      have a := (ih (by omega)).unR (7 - n)
      rw [show 8 - n = 7 - n + 1 by omega] at a
      rw [show 8 - (n + 1) = 7 - n by omega]
      exact a.trans (un_mix_r _ _)
  exact h 8 (by omega)
theorem mix_un (f : Nat → UInt32) : Eq8 (mix (unmix f)) f := by
  have h : ∀ n, n ≤ 8 → Eq8 (mixN (unN f 8) n) (unN f (8 - n)) := by
    intro n
    induction n with
    | zero => intro _; exact Eq8.refl _
    | succ n ih =>
      intro hn
      have a := (ih (by omega)).mixR n
      have e : unN f (8 - n) = unR (unN f (7 - n)) n := by
        rw [show 8 - n = 7 - n + 1 by omega]
        show unR _ _ = _
        rw [show 7 - (7 - n) = n by omega]
      rw [e] at a
      rw [show 8 - (n + 1) = 7 - n by omega]
      exact a.trans (mix_un_r _ _)
  exact h 8 (by omega)
theorem mix_inj {f g : Nat → UInt32} (h : Eq8 (mix f) (mix g)) : Eq8 f g := (un_mix f).symm.trans ((h.unN 8).trans (un_mix g))
theorem mix_congr {f g : Nat → UInt32} (h : Eq8 f g) : Eq8 (mix f) (mix g) := h.mixN 8
end Go.Proofs.YtdkkomcokefkhaaDoor
