/- DigestChain: the law's own text, walked. -/
import Derived.Test.YtbhibkhmjdleoaaDoorDgL
namespace Go.Proofs.YtbhibkhmjdleoaaDoor
open Go.RowKit

theorem chain_back (X b : Nat → UInt32) : Eq8 (xorTo (unmix (absorb X b)) b 4) X := by
  have h := un_mix (xorTo X b 4)
  intro k hk
  have hk2 := h k hk
  unfold absorb
  unfold xorTo at hk2 ⊢
  by_cases h4 : k < 4
  · rw [if_pos h4, hk2]
    rw [if_pos h4, UInt32.xor_assoc, UInt32.xor_self, UInt32.xor_zero]
  · rw [if_neg h4, hk2]
    rw [if_neg h4]
theorem chain_rel {w W : World} {a b X Y U : Nat → UInt32} {g5 g6 g7 j : Nat} (h : j < 4) (p : Pl w a b W) (x : St W g5 X) (y : St W g6 Y) (u : St W g7 (xorTo U b (j + 1))) :
    ∃ jj : Nat, jj ≤ 4 ∧ Value.int .i64 ((j : Int) + 1) = .int .i64 jj ∧ Pl w a b W ∧ St W g5 X ∧ St W g6 Y ∧ St W g7 (xorTo U b jj) := ⟨j + 1, h, rfl, p, x, y, u⟩
/-- All boxes of the law, behind its loop. -/
structure Cw (w : World) (a b X Y V : Nat → UInt32) (g5 g6 g7 : Nat) (W : World) : Prop where
  p : Pl w a b W
  x : St W g5 X
  y : St W g6 Y
  v : St W g7 V
theorem Cw.below {w W W' : World} {a b X Y V : Nat → UInt32} {g5 g6 g7 : Nat} (h : Cw w a b X Y V g5 g6 g7 W) (hb : Below W.heap.size W W') : Cw w a b X Y V g5 g6 g7 W' := ⟨h.p.below hb, h.x.below hb h.x.lt, h.y.below hb h.y.lt, h.v.below hb h.v.lt⟩
theorem Cw.drew {w W : World} {a b X Y V : Nat → UInt32} {g5 g6 g7 : Nat} (h : Cw w a b X Y V g5 g6 g7 W) : Cw w a b X Y V g5 g6 g7 W.drew := h.below (Below.refl _ W).drew
theorem Cw.all {w W : World} {a b X Y V : Nat → UInt32} {g5 g6 g7 : Nat} (h : Cw w a b X Y V g5 g6 g7 W) : (W.cell? ⟨w.heap.size, 0, none⟩ = some (.int .u32 (a 0).toNat) ∧ W.cell? ⟨w.heap.size, 1, none⟩ = some (.int .u32 (a 1).toNat) ∧ W.cell? ⟨w.heap.size, 2, none⟩ = some (.int .u32 (a 2).toNat) ∧ W.cell? ⟨w.heap.size, 3, none⟩ = some (.int .u32 (a 3).toNat)) ∧ (W.cell? ⟨w.heap.size + 1, 0, none⟩ = some (.int .u32 (b 0).toNat) ∧ W.cell? ⟨w.heap.size + 1, 1, none⟩ = some (.int .u32 (b 1).toNat) ∧ W.cell? ⟨w.heap.size + 1, 2, none⟩ = some (.int .u32 (b 2).toNat) ∧ W.cell? ⟨w.heap.size + 1, 3, none⟩ = some (.int .u32 (b 3).toNat)) ∧ (W.cell? ⟨g5, 0, none⟩ = some (.int .u32 (X 0).toNat) ∧ W.cell? ⟨g5, 1, none⟩ = some (.int .u32 (X 1).toNat) ∧ W.cell? ⟨g5, 2, none⟩ = some (.int .u32 (X 2).toNat) ∧ W.cell? ⟨g5, 3, none⟩ = some (.int .u32 (X 3).toNat) ∧ W.cell? ⟨g5, 4, none⟩ = some (.int .u32 (X 4).toNat) ∧ W.cell? ⟨g5, 5, none⟩ = some (.int .u32 (X 5).toNat) ∧ W.cell? ⟨g5, 6, none⟩ = some (.int .u32 (X 6).toNat) ∧ W.cell? ⟨g5, 7, none⟩ = some (.int .u32 (X 7).toNat)) ∧ (W.cell? ⟨g6, 0, none⟩ = some (.int .u32 (Y 0).toNat) ∧ W.cell? ⟨g6, 1, none⟩ = some (.int .u32 (Y 1).toNat) ∧ W.cell? ⟨g6, 2, none⟩ = some (.int .u32 (Y 2).toNat) ∧ W.cell? ⟨g6, 3, none⟩ = some (.int .u32 (Y 3).toNat) ∧ W.cell? ⟨g6, 4, none⟩ = some (.int .u32 (Y 4).toNat) ∧ W.cell? ⟨g6, 5, none⟩ = some (.int .u32 (Y 5).toNat) ∧ W.cell? ⟨g6, 6, none⟩ = some (.int .u32 (Y 6).toNat) ∧ W.cell? ⟨g6, 7, none⟩ = some (.int .u32 (Y 7).toNat)) ∧ (W.cell? ⟨g7, 0, none⟩ = some (.int .u32 (V 0).toNat) ∧ W.cell? ⟨g7, 1, none⟩ = some (.int .u32 (V 1).toNat) ∧ W.cell? ⟨g7, 2, none⟩ = some (.int .u32 (V 2).toNat) ∧ W.cell? ⟨g7, 3, none⟩ = some (.int .u32 (V 3).toNat) ∧ W.cell? ⟨g7, 4, none⟩ = some (.int .u32 (V 4).toNat) ∧ W.cell? ⟨g7, 5, none⟩ = some (.int .u32 (V 5).toNat) ∧ W.cell? ⟨g7, 6, none⟩ = some (.int .u32 (V 6).toNat) ∧ W.cell? ⟨g7, 7, none⟩ = some (.int .u32 (V 7).toNat)) ∧ Cw w a b X Y V g5 g6 g7 W :=
  ⟨h.p.all.1, h.p.all.2.1, ⟨h.x.cell 0 (by decide), h.x.cell 1 (by decide), h.x.cell 2 (by decide), h.x.cell 3 (by decide), h.x.cell 4 (by decide), h.x.cell 5 (by decide), h.x.cell 6 (by decide), h.x.cell 7 (by decide)⟩, ⟨h.y.cell 0 (by decide), h.y.cell 1 (by decide), h.y.cell 2 (by decide), h.y.cell 3 (by decide), h.y.cell 4 (by decide), h.y.cell 5 (by decide), h.y.cell 6 (by decide), h.y.cell 7 (by decide)⟩, ⟨h.v.cell 0 (by decide), h.v.cell 1 (by decide), h.v.cell 2 (by decide), h.v.cell 3 (by decide), h.v.cell 4 (by decide), h.v.cell 5 (by decide), h.v.cell 6 (by decide), h.v.cell 7 (by decide)⟩, h⟩
theorem Pl.far {w W : World} {a b : Nat → UInt32} (h : Pl w a b W) {p : Addr} (hp : w.heap.size + 1 < p.block) (hg0 : 0 < w.heap.size) (hg1 : 1 < w.heap.size) (u : Value) : Pl w a b (W.setCell p u) :=
  have bel : Below w.heap.size w (W.setCell p u) := h.bel.setCell (by omega) u
  have b2 : Below w.heap.size W (W.setCell p u) := (Below.refl w.heap.size W).setCell (by omega) u
  ⟨h.x.far (by omega) u, h.y.far (by omega) u, h.sm.below b2 hg1, h.pl.below b2 hg0, bel⟩
set_option maxHeartbeats 4000000 in
theorem chain_walk (a b : Nat → UInt32) (w : World) (hT : Small w) (hP : Places w) :
    Calls Tryd.prog 8 #[.agg (dgv a), .agg (dgv b)] w fun e w' => e = .returned (.bool true) ∧ Below w.heap.size w w' := by
  obtain ⟨X, hX⟩ : ∃ X, absorb two0 a = X := ⟨_, rfl⟩
  have hp0 : pairD a b = absorb X b := by unfold pairD; rw [hX]
  have hback := chain_back X b
  obtain ⟨Y, hY⟩ : ∃ Y, absorb X b = Y := ⟨_, rfl⟩
  rw [hY] at hp0 hback
  obtain ⟨U, hU⟩ : ∃ U, unmix Y = U := ⟨_, rfl⟩
  rw [hU] at hback
  obtain ⟨V, hV⟩ : ∃ V, xorTo U b 4 = V := ⟨_, rfl⟩
  rw [hV] at hback
  have k1 : ∀ W : World, Places W → Calls Tryd.prog 22 #[.agg #[.int .u32 2, .int .u32 0, .int .u32 0, .int .u32 0, .int .u32 0, .int .u32 0, .int .u32 0, .int .u32 0], .agg #[.int .u32 (a 0).toNat, .int .u32 (a 1).toNat, .int .u32 (a 2).toNat, .int .u32 (a 3).toNat]] W fun e W' => e = .returned (.agg #[.int .u32 (X 0).toNat, .int .u32 (X 1).toNat, .int .u32 (X 2).toNat, .int .u32 (X 3).toNat, .int .u32 (X 4).toNat, .int .u32 (X 5).toNat, .int .u32 (X 6).toNat, .int .u32 (X 7).toNat]) ∧ Below W.heap.size W W' := fun W h => by have q := law_took two0 a W h; rw [hX] at q; exact q
  have k2 : ∀ W : World, Places W → Calls Tryd.prog 22 #[.agg #[.int .u32 (X 0).toNat, .int .u32 (X 1).toNat, .int .u32 (X 2).toNat, .int .u32 (X 3).toNat, .int .u32 (X 4).toNat, .int .u32 (X 5).toNat, .int .u32 (X 6).toNat, .int .u32 (X 7).toNat], .agg #[.int .u32 (b 0).toNat, .int .u32 (b 1).toNat, .int .u32 (b 2).toNat, .int .u32 (b 3).toNat]] W fun e W' => e = .returned (.agg #[.int .u32 (Y 0).toNat, .int .u32 (Y 1).toNat, .int .u32 (Y 2).toNat, .int .u32 (Y 3).toNat, .int .u32 (Y 4).toNat, .int .u32 (Y 5).toNat, .int .u32 (Y 6).toNat, .int .u32 (Y 7).toNat]) ∧ Below W.heap.size W W' := fun W h => by have q := law_took X b W h; rw [hY] at q; exact q
  have k3 : ∀ W : World, Places W → Calls Tryd.prog 14 #[.agg #[.int .u32 (Y 0).toNat, .int .u32 (Y 1).toNat, .int .u32 (Y 2).toNat, .int .u32 (Y 3).toNat, .int .u32 (Y 4).toNat, .int .u32 (Y 5).toNat, .int .u32 (Y 6).toNat, .int .u32 (Y 7).toNat]] W fun e W' => e = .returned (.agg #[.int .u32 (U 0).toNat, .int .u32 (U 1).toNat, .int .u32 (U 2).toNat, .int .u32 (U 3).toNat, .int .u32 (U 4).toNat, .int .u32 (U 5).toNat, .int .u32 (U 6).toNat, .int .u32 (U 7).toNat]) ∧ Below W.heap.size W W' := fun W h => by have q := unmixL Y W h; rw [hU] at q; exact q
  have k4 : ∀ W : World, Places W → Calls Tryd.prog 20 #[.agg #[.int .u32 (a 0).toNat, .int .u32 (a 1).toNat, .int .u32 (a 2).toNat, .int .u32 (a 3).toNat], .agg #[.int .u32 (b 0).toNat, .int .u32 (b 1).toNat, .int .u32 (b 2).toNat, .int .u32 (b 3).toNat]] W fun e W' => e = .returned (.agg (dgv Y)) ∧ Below W.heap.size W W' := fun W h => by rw [← hp0]; exact digest_Pair a b W h
  have eU : xorTo U b 0 = U := xorTo_zero U b
  have EU := Lib.hid eU
  clear eU
  have e1 : ∀ W : World, (Op.equalIn 10000 29 (.agg (dgv Y)) (.agg #[.int .u32 (Y 0).toNat, .int .u32 (Y 1).toNat, .int .u32 (Y 2).toNat, .int .u32 (Y 3).toNat])).run Tryd.prog W = .ok true W := fun W => (eqD_run Y Y W).trans (by rw [show eqD Y Y = true from decide_eq_true ⟨rfl, rfl, rfl, rfl⟩])
  have e2 : ∀ W : World, (Op.equalIn 10000 23 (.agg #[.int .u32 (V 0).toNat, .int .u32 (V 1).toNat, .int .u32 (V 2).toNat, .int .u32 (V 3).toNat, .int .u32 (V 4).toNat, .int .u32 (V 5).toNat, .int .u32 (V 6).toNat, .int .u32 (V 7).toNat]) (.agg #[.int .u32 (X 0).toNat, .int .u32 (X 1).toNat, .int .u32 (X 2).toNat, .int .u32 (X 3).toNat, .int .u32 (X 4).toNat, .int .u32 (X 5).toNat, .int .u32 (X 6).toNat, .int .u32 (X 7).toNat])).run Tryd.prog W = .ok true W := fun W => (eqS_run V X W).trans (by rw [eqS_true.2 hback])
  have K1 := Lib.hid k1
  have K2 := Lib.hid k2
  have K3 := Lib.hid k3
  have K4 := Lib.hid k4
  have HV := Lib.hid hV
  clear k1 k2 k3 k4 hX hp0 hback hY hU hV
  go_enter Tryd.func8, Tryd.ntmps8
  have hm := Pl.new w a b hT hP
  obtain ⟨⟨a0, a1, a2, a3⟩, ⟨b0, b1, b2, b3⟩, _⟩ := hm.all
  go_wp2_with fail
  refine (K1.out _ hm.pl).mono ?_
  rintro e w1 ⟨rfl, hb1⟩
  clear a0 a1 a2 a3 b0 b1 b2 b3
  replace hm := (hm.below hb1)
  clear hb1
  have l1 := hm.y.lt
  have l0 := hm.x.lt
  obtain ⟨⟨a0, a1, a2, a3⟩, ⟨b0, b1, b2, b3⟩, _⟩ := hm.all
  go_wp2_with fail
  clear l1 l0
  clear a0 a1 a2 a3 b0 b1 b2 b3
  have hX : St (w1.alloc (.cells #[.int .u32 (X 0).toNat, .int .u32 (X 1).toNat, .int .u32 (X 2).toNat, .int .u32 (X 3).toNat, .int .u32 (X 4).toNat, .int .u32 (X 5).toNat, .int .u32 (X 6).toNat, .int .u32 (X 7).toNat] 23)) w1.heap.size X := Blk.new w1 _ _
  replace hm := hm.alloc (.cells #[.int .u32 (X 0).toNat, .int .u32 (X 1).toNat, .int .u32 (X 2).toNat, .int .u32 (X 3).toNat, .int .u32 (X 4).toNat, .int .u32 (X 5).toNat, .int .u32 (X 6).toNat, .int .u32 (X 7).toNat] 23)
  obtain ⟨g5, hg⟩ : ∃ g, w1.heap.size = g := ⟨_, rfl⟩
  rw [hg] at hX
  simp only [hg]
  clear hg
  generalize World.alloc w1 _ = W1 at hm hX  ⊢
  refine (K2.out _ hm.pl).mono ?_
  rintro e w1 ⟨rfl, hb1⟩
  replace hX := hX.below hb1 hX.lt
  replace hm := hm.below hb1
  clear hb1
  go_wp2_with fail
  have hY : St (w1.alloc (.cells #[.int .u32 (Y 0).toNat, .int .u32 (Y 1).toNat, .int .u32 (Y 2).toNat, .int .u32 (Y 3).toNat, .int .u32 (Y 4).toNat, .int .u32 (Y 5).toNat, .int .u32 (Y 6).toNat, .int .u32 (Y 7).toNat] 23)) w1.heap.size Y := Blk.new w1 _ _
  replace hm := hm.alloc (.cells #[.int .u32 (Y 0).toNat, .int .u32 (Y 1).toNat, .int .u32 (Y 2).toNat, .int .u32 (Y 3).toNat, .int .u32 (Y 4).toNat, .int .u32 (Y 5).toNat, .int .u32 (Y 6).toNat, .int .u32 (Y 7).toNat] 23)
  replace hX := hX.alloc (.cells #[.int .u32 (Y 0).toNat, .int .u32 (Y 1).toNat, .int .u32 (Y 2).toNat, .int .u32 (Y 3).toNat, .int .u32 (Y 4).toNat, .int .u32 (Y 5).toNat, .int .u32 (Y 6).toNat, .int .u32 (Y 7).toNat] 23)
  obtain ⟨g6, hg⟩ : ∃ g, w1.heap.size = g := ⟨_, rfl⟩
  rw [hg] at hY
  simp only [hg]
  clear hg
  generalize World.alloc w1 _ = W1 at hm hY hX ⊢
  refine (K3.out _ hm.pl).mono ?_
  rintro e w1 ⟨rfl, hb1⟩
  replace hX := hX.below hb1 hX.lt
  replace hY := hY.below hb1 hY.lt
  have lY := hY.lt
  have lX := hX.lt
  replace hm := hm.below hb1
  clear hb1
  have lm := hm.y.lt
  go_wp2_with fail
  have hU : St (w1.alloc (.cells #[.int .u32 (U 0).toNat, .int .u32 (U 1).toNat, .int .u32 (U 2).toNat, .int .u32 (U 3).toNat, .int .u32 (U 4).toNat, .int .u32 (U 5).toNat, .int .u32 (U 6).toNat, .int .u32 (U 7).toNat] 23)) w1.heap.size U := Blk.new w1 _ _
  replace hm := hm.alloc (.cells #[.int .u32 (U 0).toNat, .int .u32 (U 1).toNat, .int .u32 (U 2).toNat, .int .u32 (U 3).toNat, .int .u32 (U 4).toNat, .int .u32 (U 5).toNat, .int .u32 (U 6).toNat, .int .u32 (U 7).toNat] 23)
  replace hX := hX.alloc (.cells #[.int .u32 (U 0).toNat, .int .u32 (U 1).toNat, .int .u32 (U 2).toNat, .int .u32 (U 3).toNat, .int .u32 (U 4).toNat, .int .u32 (U 5).toNat, .int .u32 (U 6).toNat, .int .u32 (U 7).toNat] 23)
  replace hY := hY.alloc (.cells #[.int .u32 (U 0).toNat, .int .u32 (U 1).toNat, .int .u32 (U 2).toNat, .int .u32 (U 3).toNat, .int .u32 (U 4).toNat, .int .u32 (U 5).toNat, .int .u32 (U 6).toNat, .int .u32 (U 7).toNat] 23)
  obtain ⟨g7, hg⟩ : ∃ g, w1.heap.size = g := ⟨_, rfl⟩
  rw [hg] at hU lX lY lm
  simp only [hg]
  clear hg
  generalize World.alloc w1 _ = W1 at hm hX hY hU ⊢
  rw [← EU.out] at hU
  go_loopw [8] (fun i wr => ∃ j : Nat, j ≤ 4 ∧ i = .int .i64 j ∧ Pl w a b wr ∧ St wr g5 X ∧ St wr g6 Y ∧ St wr g7 (xorTo U b j)) (fun i _ => 4 - (intOf i).toNat)
  case atStart => exact ⟨0, by omega, rfl, hm, hX, hY, hU⟩
  case round =>
    clear hm hX hY hU
    obtain ⟨j, hj, rfl, hm, hX, hY, hU⟩ := hrel
    by_cases hlt : j < 4
    · have hc := hU.cell j (by omega)
      rw [xorTo_at] at hc
      have hd := (hm.y.cell j).trans (dgv_get b j hlt)
      simp only [wv] at hd
      have hf := hU.frozen j
      have hjI : (j : Int) < 4 := by omega
      have hj8 : (j : Int) < 8 := by omega
      have hj0 : (0 : Int) ≤ j := by omega
      go_wp2_with fail
      go_region
      rw [w_xor]
      have u2 := (hU.set j (by omega) (U j ^^^ b j)).drew
      rw [xorTo_step] at u2
      have m2 := (hm.far (p := ⟨g7, j, none⟩) lm hP.1 hT.1 (.int .u32 (U j ^^^ b j).toNat)).drew
      have x2 := (hX.far (p := ⟨g7, j, none⟩) (by simp; omega) (.int .u32 (U j ^^^ b j).toNat)).drew
      have y2 := (hY.far (p := ⟨g7, j, none⟩) (by simp; omega) (.int .u32 (U j ^^^ b j).toNat)).drew
      clear hc hd hf hm hX hY hU
      go_wp2_with fail
      go_roundw
      case rel => first | exact chain_rel hlt m2 x2 y2 u2 | ((repeat apply Exists.intro); exact ⟨chain_rel hlt m2 x2 y2 u2, rfl⟩)
      case measure => simp [intOf]; omega
    · obtain rfl : j = 4 := by omega
      rw [HV.out] at hU
      have hA : Cw w a b X Y V g5 g6 g7 wr := ⟨hm, hX, hY, hU⟩
      clear hm hX hY hU
      go_wp2_with fail
      go_region_held3 (fun W => (W.cell? ⟨w.heap.size, 0, none⟩ = some (.int .u32 (a 0).toNat) ∧ W.cell? ⟨w.heap.size, 1, none⟩ = some (.int .u32 (a 1).toNat) ∧ W.cell? ⟨w.heap.size, 2, none⟩ = some (.int .u32 (a 2).toNat) ∧ W.cell? ⟨w.heap.size, 3, none⟩ = some (.int .u32 (a 3).toNat)) ∧ (W.cell? ⟨w.heap.size + 1, 0, none⟩ = some (.int .u32 (b 0).toNat) ∧ W.cell? ⟨w.heap.size + 1, 1, none⟩ = some (.int .u32 (b 1).toNat) ∧ W.cell? ⟨w.heap.size + 1, 2, none⟩ = some (.int .u32 (b 2).toNat) ∧ W.cell? ⟨w.heap.size + 1, 3, none⟩ = some (.int .u32 (b 3).toNat)) ∧ (W.cell? ⟨g5, 0, none⟩ = some (.int .u32 (X 0).toNat) ∧ W.cell? ⟨g5, 1, none⟩ = some (.int .u32 (X 1).toNat) ∧ W.cell? ⟨g5, 2, none⟩ = some (.int .u32 (X 2).toNat) ∧ W.cell? ⟨g5, 3, none⟩ = some (.int .u32 (X 3).toNat) ∧ W.cell? ⟨g5, 4, none⟩ = some (.int .u32 (X 4).toNat) ∧ W.cell? ⟨g5, 5, none⟩ = some (.int .u32 (X 5).toNat) ∧ W.cell? ⟨g5, 6, none⟩ = some (.int .u32 (X 6).toNat) ∧ W.cell? ⟨g5, 7, none⟩ = some (.int .u32 (X 7).toNat)) ∧ (W.cell? ⟨g6, 0, none⟩ = some (.int .u32 (Y 0).toNat) ∧ W.cell? ⟨g6, 1, none⟩ = some (.int .u32 (Y 1).toNat) ∧ W.cell? ⟨g6, 2, none⟩ = some (.int .u32 (Y 2).toNat) ∧ W.cell? ⟨g6, 3, none⟩ = some (.int .u32 (Y 3).toNat) ∧ W.cell? ⟨g6, 4, none⟩ = some (.int .u32 (Y 4).toNat) ∧ W.cell? ⟨g6, 5, none⟩ = some (.int .u32 (Y 5).toNat) ∧ W.cell? ⟨g6, 6, none⟩ = some (.int .u32 (Y 6).toNat) ∧ W.cell? ⟨g6, 7, none⟩ = some (.int .u32 (Y 7).toNat)) ∧ (W.cell? ⟨g7, 0, none⟩ = some (.int .u32 (V 0).toNat) ∧ W.cell? ⟨g7, 1, none⟩ = some (.int .u32 (V 1).toNat) ∧ W.cell? ⟨g7, 2, none⟩ = some (.int .u32 (V 2).toNat) ∧ W.cell? ⟨g7, 3, none⟩ = some (.int .u32 (V 3).toNat) ∧ W.cell? ⟨g7, 4, none⟩ = some (.int .u32 (V 4).toNat) ∧ W.cell? ⟨g7, 5, none⟩ = some (.int .u32 (V 5).toNat) ∧ W.cell? ⟨g7, 6, none⟩ = some (.int .u32 (V 6).toNat) ∧ W.cell? ⟨g7, 7, none⟩ = some (.int .u32 (V 7).toNat)) ∧ Cw w a b X Y V g5 g6 g7 W) ((refine Cw.all ?_; repeat (first | assumption | (refine Cw.drew ?_))))
        ((first
          | (go_at_call 11; go_split_ands; (with_reducible refine (dg_awake _ ?_ ?_).mono ?_); (exact Pl.sm (w := w) (a := a) (b := b) (Cw.p (w := w) (a := a) (b := b) (X := X) (Y := Y) (V := V) (g5 := g5) (g6 := g6) (g7 := g7) (by assumption))); (exact Pl.pl (w := w) (a := a) (b := b) (Cw.p (w := w) (a := a) (b := b) (X := X) (Y := Y) (V := V) (g5 := g5) (g6 := g6) (g7 := g7) (by assumption))); rintro e w6 ⟨rfl, hb6⟩; have I6 := Cw.below (w := w) (a := a) (b := b) (X := X) (Y := Y) (V := V) (g5 := g5) (g6 := g6) (g7 := g7) (by assumption) hb6)
          | (go_at_call 20; go_split_ands; (with_reducible refine (K4.out _ ?_).mono ?_); (exact Pl.pl (w := w) (a := a) (b := b) (Cw.p (w := w) (a := a) (b := b) (X := X) (Y := Y) (V := V) (g5 := g5) (g6 := g6) (g7 := g7) (by assumption))); rintro e w6 ⟨rfl, hb6⟩; have I6 := Cw.below (w := w) (a := a) (b := b) (X := X) (Y := Y) (V := V) (g5 := g5) (g6 := g6) (g7 := g7) (by assumption) hb6)))
      all_goals
        go_split_ands
        go_wp2_with fail
        go_returns
        exact ⟨rfl, Pl.bel (w := w) (a := a) (b := b) (Cw.p (w := w) (a := a) (b := b) (X := X) (Y := Y) (V := V) (g5 := g5) (g6 := g6) (g7 := g7) (by assumption))⟩
end Go.Proofs.YtbhibkhmjdleoaaDoor
