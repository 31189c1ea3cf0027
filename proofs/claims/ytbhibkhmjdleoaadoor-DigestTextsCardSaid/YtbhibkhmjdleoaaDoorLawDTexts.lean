/- DigestTexts: the law's own text, walked. -/
import Derived.Test.YtbhibkhmjdleoaaDoorDgO
import Derived.Test.YtbhibkhmjdleoaaDoorDgS
import Derived.Test.YtbhibkhmjdleoaaDoorDgW
namespace Go.Proofs.YtbhibkhmjdleoaaDoor
open Go.RowKit

/-- One digest in the box that the law makes first; the tables as they were laid. -/
structure D1 (w : World) (f : Nat → UInt32) (W : World) : Prop where
  x : Blk W w.heap.size 29 (dgv f)
  sm : Small W
  pl : Places W
  bel : Below w.heap.size w W
section
variable {w W W' : World} {f : Nat → UInt32}
theorem D1.new (w : World) (f : Nat → UInt32) (hT : Small w) (hP : Places w) : D1 w f (w.alloc (.cells (dgv f) 29)) :=
  have c := (Below.refl _ w).alloc (Nat.le_refl _) (.cells (dgv f) 29)
  ⟨Blk.new w _ _, hT.below c hT.1, hP.below c hP.1, c⟩
theorem D1.below (h : D1 w f W) (hb : Below W.heap.size W W') : D1 w f W' := ⟨h.x.below hb h.x.lt, h.sm.below hb h.sm.1, h.pl.below hb h.pl.1, h.bel.trans (hb.mono h.bel.size)⟩
theorem D1.alloc (h : D1 w f W) (o : Obj) : D1 w f (W.alloc o) := h.below ((Below.refl _ W).alloc (Nat.le_refl _) o)
theorem D1.all (h : D1 w f W) : (W.cell? ⟨w.heap.size, 0, none⟩ = some (.int .u32 (f 0).toNat) ∧ W.cell? ⟨w.heap.size, 1, none⟩ = some (.int .u32 (f 1).toNat) ∧ W.cell? ⟨w.heap.size, 2, none⟩ = some (.int .u32 (f 2).toNat) ∧ W.cell? ⟨w.heap.size, 3, none⟩ = some (.int .u32 (f 3).toNat)) :=
  ⟨(h.x.cell 0).trans (dgv_get f 0 (by decide)), (h.x.cell 1).trans (dgv_get f 1 (by decide)), (h.x.cell 2).trans (dgv_get f 2 (by decide)), (h.x.cell 3).trans (dgv_get f 3 (by decide))⟩
end

set_option maxHeartbeats 2000000 in
theorem texts_walk (f : Nat → UInt32) (w : World) (hT : Small w) (hP : Places w) :
    Calls Tryd.prog 5 #[.agg (dgv f)] w fun e w' => e = .returned (.bool true) ∧ Below w.heap.size w w' := by
  have e1 : ∀ W : World, (Op.equalIn 10000 29 (.agg #[.int .u32 (f 0).toNat, .int .u32 (f 1).toNat, .int .u32 (f 2).toNat, .int .u32 (f 3).toNat]) (.agg #[.int .u32 (f 0).toNat, .int .u32 (f 1).toNat, .int .u32 (f 2).toNat, .int .u32 (f 3).toNat])).run Tryd.prog W = .ok true W := fun W => (eqD_run f f W).trans (by rw [show eqD f f = true from decide_eq_true ⟨rfl, rfl, rfl, rfl⟩])
  have hA := D1.new w f hT hP
  unfold dgv at hA ⊢
  simp only [wv] at hA ⊢
  go_enter Tryd.func5, Tryd.ntmps5
  go_wp2_with fail
  refine (digest_Text f _ hA.sm).mono ?_
  rintro e w1 ⟨⟨t, rfl, ht⟩, hb1⟩
  have h1 := hA.below hb1
  have hsz : t.size = 32 := by have h := congrArg List.length ht.out; rw [hexT_length] at h; exact h
  have hszI : ((t.size : Int) != 32) = false := by rw [bne_eq_false_iff_eq]; omega
  have hall : Hid (∀ j (hj : j < t.data.toList.length), (48 ≤ t.data.toList[j].toNat ∧ t.data.toList[j].toNat ≤ 57) ∨ (97 ≤ t.data.toList[j].toNat ∧ t.data.toList[j].toNat ≤ 102)) := by
    intro j hj
    exact hexT_small (beB f) _ (by rw [← ht.out]; exact List.getElem_mem _)
  have hsz32 : t.size ≤ 32 := by omega
  have HSZ := Lib.hid hsz
  clear hb1 hA hsz
  go_wp2_with fail
  go_loop [4] (fun i => ∃ k : Nat, k ≤ t.size ∧ i = .int .i64 k) (fun i => t.size - (intOf i).toNat)
  case atStart => exact ⟨0, Nat.zero_le _, rfl⟩
  case round =>
    obtain ⟨k, hk, rfl⟩ := hrel
    by_cases hlt : k < t.size
    · obtain ⟨x, hx⟩ : ∃ x, t[k] = x := ⟨_, rfl⟩
      have hxs := hall.out k hlt
      have hxL : t.data.toList[k]'hlt = x := hx
      rw [hxL] at hxs
      have hltI : (k : Int) < t.size := by omega
      have hk0 : (0 : Int) ≤ k := by omega
      clear hxL
      rcases hxs with ⟨u1, u2⟩ | ⟨u1, u2⟩
      all_goals
        go_wp2_with fail
        go_round
        case rel => exact ⟨k + 1, hlt, rfl⟩
        case measure => simp [intOf]; omega
    · obtain rfl : k = t.size := by omega
      have hpar : parseI t.data.toList = (beB f, 0, true) := by rw [ht.out, parseI_hexT]
      have HPAR := Lib.hid hpar
      clear hpar hall
      go_wp2_with fail
      refine (digest_Parse_ok t _ HSZ.out h1.sm (by unfold Hid; rw [HPAR.out])).mono ?_
      rintro e w2 ⟨he, hb2⟩
      rw [show (parseI t.data.toList).1 = beB f by rw [HPAR.out], deB_beB] at he
      unfold dgv at he
      simp only [wv] at he
      subst he
      have h2 := h1.below hb2
      clear hb2 h1
      go_wp2_with fail
      refine (dg_awake _ (h2.alloc _).sm (h2.alloc _).pl).mono ?_
      rintro e w3 ⟨rfl, hb3⟩
      have hX := (Blk.new w2 29 #[.int .u32 (f 0).toNat, .int .u32 (f 1).toNat, .int .u32 (f 2).toNat, .int .u32 (f 3).toNat]).below hb3 (by simp)
      have h3 := (h2.alloc _).below hb3
      obtain ⟨a0, a1, a2, a3⟩ := h3.all
      have x0 := hX.cell 0
      have x1 := hX.cell 1
      have x2 := hX.cell 2
      have x3 := hX.cell 3
      clear hb3 h2
      go_wp2_with fail
      refine (ref_dText f _).mono ?_
      rintro e w4 ⟨⟨r, rfl, hr⟩, hb4⟩
      obtain rfl : r = t := ba_inj (by rw [hr.out, ht.out])
      have h4 := h3.below hb4
      clear hb4 h3 a0 a1 a2 a3 x0 x1 x2 x3 hX hr ht
      go_wp2_with fail
      go_returns
      exact ⟨ret_bool (by simp), h4.bel⟩
end Go.Proofs.YtbhibkhmjdleoaaDoor
