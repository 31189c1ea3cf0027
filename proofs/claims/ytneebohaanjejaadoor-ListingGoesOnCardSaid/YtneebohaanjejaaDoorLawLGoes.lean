/- The law ListingGoesOn, walked. -/
import Derived.Test.YtneebohaanjejaaDoorLk
import Derived.Test.YtneebohaanjejaaDoorLawLTargets
import Derived.Test.YtneebohaanjejaaDoorAppx
import Derived.Deep.DrawnRows
import Derived.Deep.CutBlock
namespace Go.Proofs.YtneebohaanjejaaDoor
open Go.RowKit

/-- The image's box, the greater one's, and the greater one's words. -/
structure Gs (w : World) (A : Option Addr) (n c : Nat) (d : Int) (g : Nat) (A3 : Option Addr) (m c3 : Nat) (zs : List Value) (W : World) : Prop where
  t : Tg w A n c d W
  x : Blk W g 25 #[.slice A3 m c3, .int .i64 d]
  s : Sl W W.heap.size A3 m zs
section
variable {w W W' : World} {A A3 : Option Addr} {n c g m c3 : Nat} {d : Int} {zs : List Value}
theorem Gs.below (h : Gs w A n c d g A3 m c3 zs W) (hb : Below W.heap.size W W') : Gs w A n c d g A3 m c3 zs W' := ⟨h.t.below hb, h.x.below hb h.x.lt, (h.s.below hb).more hb.size⟩
theorem Gs.drewN (h : Gs w A n c d g A3 m c3 zs W) (k : Nat) : Gs w A n c d g A3 m c3 zs (W.drewN k) := ⟨⟨h.t.m.drewN k, below_drewN h.t.bel k⟩, h.x.drewN k, h.s⟩
theorem Gs.cells (h : Gs w A n c d g A3 m c3 zs W) : (W.cell? ⟨w.heap.size, 0, none⟩ = some (.slice A n c) ∧ W.cell? ⟨w.heap.size, 1, none⟩ = some (.int .i64 d)) ∧ W.cell? ⟨g, 0, none⟩ = some (.slice A3 m c3) ∧ W.cell? ⟨g, 1, none⟩ = some (.int .i64 d) := ⟨h.t.cells, h.x.cell 0, h.x.cell 1⟩
theorem Gs.of (hT : Tg w A n c d W) (hB : Blk W g 25 #[.slice none 0 0, .int .i64 0]) (hO : W.ownsRow (w.heap.size + 1) 40 1 (.slice A3 m c3) m zs) (hL : w.heap.size < g) :
    Gs w A n c d g A3 m c3 zs ((W.setCell ⟨g, 0, none⟩ (.slice A3 m c3)).setCell ⟨g, 1, none⟩ (.int .i64 d)) := by
  have hT1 : ∀ (W1 : World) (p : Addr) (u : Value), p.block = g → Tg w A n c d W1 → Tg w A n c d (W1.setCell p u) := fun W1 p u e h => ⟨h.m.far (by rw [e]; omega) u, h.bel.setCell (p := p) (by rw [e]; omega) u⟩
  have hO1 : ∀ (W1 : World) (p : Addr) (u : Value), p.block = g → (∃ cs, Blk W1 g 25 cs) → W1.ownsRow (w.heap.size + 1) 40 1 (.slice A3 m c3) m zs → (W1.setCell p u).ownsRow (w.heap.size + 1) 40 1 (.slice A3 m c3) m zs := by
    rintro W1 p u e ⟨cs, hb⟩ ⟨k1, k2⟩
    refine ⟨k1, ?_⟩
    rcases k2 with k2 | ⟨g', cap, cur, hv, hg, hh, r⟩
    · exact .inl k2
    · refine .inr ⟨g', cap, cur, hv, hg, ?_, r⟩
      have hne : g' ≠ p.block := by
        intro e2
        rw [e] at e2
        subst e2
        have h2 : some (Obj.cells cur 40 (0, 0)) = some (Obj.cells cs 25 (0, 0)) := hh.symm.trans hb
        injection h2 with h2
        injection h2 with _ h3
        exact absurd h3 (by decide)
      exact (Below.heap_setCell W1 p u g' hne).trans hh
  have b1 := hB.set 0 (.slice A3 m c3)
  have b2 := b1.set 1 (.int .i64 d)
  have o2 := hO1 _ ⟨g, 1, none⟩ (.int .i64 d) rfl ⟨_, b1⟩ (hO1 _ ⟨g, 0, none⟩ (.slice A3 m c3) rfl ⟨_, hB⟩ hO)
  obtain ⟨A', c', e, _, _, hS⟩ := Sl.of_own o2
  simp only [Value.slice.injEq] at e
  obtain ⟨rfl, -, rfl⟩ := e
  exact ⟨hT1 _ _ _ rfl (hT1 _ _ _ rfl hT), b2, hS⟩
end
def Rg (w : World) (A : Option Addr) (c : Nat) (d : Int) (xs ys : List UInt32) (p : Value) (W : World) : Prop := ∃ g A3 c3, p = .pointer (some ⟨g, 0, none⟩) ∧ Gs w A xs.length c d g A3 (xs.length + ys.length) c3 (xs.map wv ++ ys.map wv) W
theorem goes_front {xs ys : List UInt32} {d : Nat} {s t : ByteArray} (h : targL xs = targL (xs ++ ys)) (hs : s.data.toList = textT xs d) (ht : t.data.toList = textT (xs ++ ys) d) : s.size ≤ t.size ∧ ((t.extract 0 s.size).toList == s.toList) = true := by
  obtain ⟨r, hr⟩ := goes_on h d
  have e1 : s.data.toList.length = s.size := rfl
  have e2 : t.data.toList.length = t.size := rfl
  rw [ht, hr, ← hs, List.length_append, e1] at e2
  refine ⟨by omega, ?_⟩
  rw [Lib.extract_toList, Lib.toList_data, ht, hr, ← hs, List.drop_zero, Nat.sub_zero, List.take_left' e1]
  exact beq_self_eq_true _

set_option maxRecDepth 100000 in
set_option maxHeartbeats 4000000 in
theorem lgoes_walk (xs ys : List UInt32) (A A' : Option Addr) (c c' : Nat) (d : Int) (w : World) (hx : Sl w w.heap.size A xs.length (xs.map wv)) (hy : Sl w w.heap.size A' ys.length (ys.map wv)) (hp : Pow10 w) :
    Calls Tryd.prog 9 #[.agg #[.slice A xs.length c, .int .i64 d], .slice A' ys.length c'] w fun e w' => e = .returned (.bool true) ∧ Below w.heap.size w w' := by
  have KA := Lib.hid ls_awake
  have T0 := Tg.new w A xs.length c d
  have hp0 := hp.below T0.bel
  have KX := Lib.hid (fun W => ref_Right A xs.length c d W)
  have hcase : 100 < xs.length ∨ (xs.length ≤ 100 ∧ 100 < ys.length) ∨ (xs.length ≤ 100 ∧ ys.length ≤ 100) := by omega
  rcases hcase with h1 | ⟨h1, h2⟩ | ⟨h1, h2⟩
  · have hI : (100 : Int) < xs.length := by omega
    go_enter Tryd.func9, Tryd.ntmps9
    go_wp2_with fail
    refine (KA.out _ hp0).mono ?_
    rintro e w1 ⟨rfl, b1⟩
    have T1 := T0.below b1
    have t0 := T1.cells.1
    have t1 := T1.cells.2
    go_wp2_with fail
    go_returns
    exact ⟨rfl, T1.bel⟩
  · have hI : ¬ (100 : Int) < xs.length := by omega
    have hI2 : (100 : Int) < ys.length := by omega
    go_enter Tryd.func9, Tryd.ntmps9
    go_wp2_with fail
    refine (KA.out _ hp0).mono ?_
    rintro e w1 ⟨rfl, b1⟩
    have T1 := T0.below b1
    have t0 := T1.cells.1
    have t1 := T1.cells.2
    go_wp2_with fail
    go_returns
    exact ⟨rfl, T1.bel⟩
  have hI : ¬ (100 : Int) < xs.length := by omega
  have hI2 : ¬ (100 : Int) < ys.length := by omega
  cases hr : rightB xs.length d with
  | false =>
    rw [hr] at KX
    go_enter Tryd.func9, Tryd.ntmps9
    go_wp2_with fail
    refine (KA.out _ hp0).mono ?_
    rintro e w1 ⟨rfl, b1⟩
    have T1 := T0.below b1
    have t0 := T1.cells.1
    have t1 := T1.cells.2
    go_wp2_with fail
    refine (KX.out _).mono ?_
    rintro e w2 ⟨rfl, b2⟩
    have T2 := T1.below b2
    go_wp2_with fail
    go_returns
    exact ⟨rfl, T2.bel⟩
  | true =>
  rw [hr] at KX
  have hr2 := of_decide_eq_true hr
  obtain ⟨dn, rfl⟩ : ∃ dn : Nat, d = (dn : Int) := ⟨d.toNat, by omega⟩
  have hq : rightB (xs ++ ys).length (dn : Int) = true := decide_eq_true ⟨by rw [List.length_append]; omega, by omega, by omega⟩
  have K1 := Lib.hid (fun (W : World) (h : Below w.heap.size w W) => listing_Targets A xs c (dn : Int) W ((hx.below h).more h.size) (by omega))
  have k2 : ∀ (A3 : Option Addr) (c3 : Nat) (W : World), Sl W W.heap.size A3 (xs.length + ys.length) (xs.map wv ++ ys.map wv) → Calls Tryd.prog 20 #[.agg #[.slice A3 (xs.length + ys.length) c3, .int .i64 (dn : Int)]] W fun e w' => (∃ B c', e = .returned (.slice B (targL (xs ++ ys)).length c') ∧ Sl w' w'.heap.size B (targL (xs ++ ys)).length ((targL (xs ++ ys)).map tv)) ∧ Below W.heap.size W w' := fun A3 c3 W hS => by
    have q := listing_Targets A3 (xs ++ ys) c3 (dn : Int) W (by rw [List.length_append, List.map_append]; exact hS) (by rw [List.length_append]; omega)
    rw [List.length_append] at q
    exact q
  have K3 := Lib.hid (fun (W : World) (h : Below w.heap.size w W) => listing_Text A xs c dn W ((hx.below h).more h.size) hr (hp.below h))
  have k4 : ∀ (A3 : Option Addr) (c3 : Nat) (W : World), Sl W W.heap.size A3 (xs.length + ys.length) (xs.map wv ++ ys.map wv) → Pow10 W → Calls Tryd.prog 22 #[.agg #[.slice A3 (xs.length + ys.length) c3, .int .i64 (dn : Int)]] W fun e w' => (∃ s, e = .returned (.tuple #[.string s, .int .i64 0]) ∧ Hid (s.data.toList = textT (xs ++ ys) dn)) ∧ Below W.heap.size W w' := fun A3 c3 W hS h => by
    have q := listing_Text A3 (xs ++ ys) c3 dn W (by rw [List.length_append, List.map_append]; exact hS) hq h
    rw [List.length_append] at q
    exact q
  have K2 := Lib.hid k2
  have K4 := Lib.hid k4
  have hlen1 : ((targL xs).length : Int) ≤ 100 := by have := targL_len xs; omega
  have hlen2 : ((targL (xs ++ ys)).length : Int) ≤ 200 := by have h := targL_len (xs ++ ys); rw [List.length_append] at h; omega
  clear hr hr2 hq k2 k4
  go_enter Tryd.func9, Tryd.ntmps9
  go_wp2_with fail
  refine (KA.out _ hp0).mono ?_
  rintro e w1 ⟨rfl, b1⟩
  have T1 := T0.below b1
  have t0 := T1.cells.1
  have t1 := T1.cells.2
  go_wp2_with fail
  refine (KX.out _).mono ?_
  rintro e w2 ⟨rfl, b2⟩
  have T2 := T1.below b2
  have t0 := T2.cells.1
  have t1 := T2.cells.2
  clear b1 b2 T0 T1 hp0
  go_wp2_with fail
  have J0 := T2.drew
  generalize hd0 : (dn : Int) = d at *
  go_cut [5] from 29 to 37 (fun p wr => Rg w A c d xs ys p wr)
  case first =>
    refine wp_region_held_drew (S := (fun W => W.cell? ⟨w.heap.size, 0, none⟩ = some (.slice A xs.length c) ∧ W.cell? ⟨w.heap.size, 1, none⟩ = some (.int .i64 d))) (by kernel_rfl) J0.cells (fun hHeld => ?_)
    generalize w2.drew = X at J0 hHeld ⊢
    refine wpAnyH_take (i := 1) (v := ?_) rfl (by kernel_rfl) (by kernel_rfl) (by kernel_rfl) (fun _ _ _ h => h) (Or.inl ⟨by kernel_rfl, ?_⟩) (by assumption) ?_
    rotate_left
    · intro w hSw; (try dsimp only at hSw); go_simp; (try with_reducible rfl)
    try simp only [Act.put, List.getElem_toArray, List.getElem_cons_succ, List.getElem_cons_zero, List.setIfInBounds_toArray, List.set_cons_zero, List.set_cons_succ]
    refine wpAnyH_take (i := 2) (v := ?_) rfl (by kernel_rfl) (by kernel_rfl) (by kernel_rfl) (fun _ _ _ h => h) (Or.inl ⟨by kernel_rfl, ?_⟩) (by assumption) ?_
    rotate_left
    · intro w hSw; (try dsimp only at hSw); go_simp; (try with_reducible rfl)
    try simp only [Act.put, List.getElem_toArray, List.getElem_cons_succ, List.getElem_cons_zero, List.setIfInBounds_toArray, List.set_cons_zero, List.set_cons_succ]
    refine wpAnyH_take (i := 4) (v := ?_) rfl (by kernel_rfl) (by kernel_rfl) (by kernel_rfl) (fun _ _ _ h => h) (Or.inl ⟨by kernel_rfl, ?_⟩) (by assumption) ?_
    rotate_left
    · intro w hSw; (try dsimp only at hSw); go_simp; (try with_reducible rfl)
    try simp only [Act.put, List.getElem_toArray, List.getElem_cons_succ, List.getElem_cons_zero, List.setIfInBounds_toArray, List.set_cons_zero, List.set_cons_succ]
    refine wpAnyH_take (i := 6) (v := ?_) rfl (by kernel_rfl) (by kernel_rfl) (by kernel_rfl) (fun _ _ _ h => h) (Or.inl ⟨by kernel_rfl, ?_⟩) (by assumption) ?_
    rotate_left
    · intro w hSw; (try dsimp only at hSw); go_simp; (try with_reducible rfl)
    try simp only [Act.put, List.getElem_toArray, List.getElem_cons_succ, List.getElem_cons_zero, List.setIfInBounds_toArray, List.set_cons_zero, List.set_cons_succ]
    refine wpAnyH_take (i := 7) (v := ?_) rfl (by kernel_rfl) (by kernel_rfl) (by kernel_rfl) (fun _ _ _ h => h) (Or.inl ⟨by kernel_rfl, ?_⟩) (by assumption) ?_
    rotate_left
    · intro w hSw; (try dsimp only at hSw); go_simp; (try with_reducible rfl)
    try simp only [Act.put, List.getElem_toArray, List.getElem_cons_succ, List.getElem_cons_zero, List.setIfInBounds_toArray, List.set_cons_zero, List.set_cons_succ]
    clear t0 t1
    refine wpAnyH_ready (rs := [0, 9]) (by kernel_rfl) (by simp) ?_
    refine AllReadyH.cons rfl (fun K hK => ?_) (AllReadyH.cons rfl (fun K hK => ?_) AllReadyH.nil)
    · skip
      go_simp
      have T1 := J0.alloc (.cells #[] 40)
      have O1 := own_none X (w.heap.size + 1) 40 J0.m.lt
      refine hK.out _ _ T1.cells (fun hHeld => ?_)
      clear hK K
      try simp only [Act.put, List.getElem_toArray, List.getElem_cons_succ, List.getElem_cons_zero, List.setIfInBounds_toArray, List.set_cons_zero, List.set_cons_succ]
      generalize X.alloc (.cells #[] 40) = X1 at T1 O1 hHeld ⊢
      generalize X.heap.size = r1 at O1 ⊢
      refine wpAnyH_ready (rs := [3, 9]) (by kernel_rfl) (by simp) ?_
      refine AllReadyH.cons rfl (fun K hK => ?_) (AllReadyH.cons rfl (fun K hK => ?_) AllReadyH.nil)
      · skip
        refine step_append_slk rfl _ _ 23 rfl (w.heap.size + 1) 40 (.int .u32 0) 4 Tryd.underlying23 info_u32 rfl _ rfl O1 A xs.length c (xs.map wv) rfl ((hx.below T1.bel).more T1.bel.size) (wv_oneCell xs) (by omega) (by omega) T1.m.lt ?_
        intro A3 c3 X2 O2 hb2 hk2
        have T2 : Tg w A xs.length c d X2 := ⟨T1.m.below hb2 (Nat.lt_succ_self _), T1.bel.trans (hb2.mono (Nat.le_succ _))⟩
        refine hK.out _ _ T2.cells (fun hHeld => ?_)
        clear hK K
        try simp only [Act.put, List.getElem_toArray, List.getElem_cons_succ, List.getElem_cons_zero, List.setIfInBounds_toArray, List.set_cons_zero, List.set_cons_succ]
        refine wpAnyH_ready (rs := [5, 9]) (by kernel_rfl) (by simp) ?_
        refine AllReadyH.cons rfl (fun K hK => ?_) (AllReadyH.cons rfl (fun K hK => ?_) AllReadyH.nil)
        · skip
          refine step_append_slx rfl _ _ 23 rfl (w.heap.size + 1) 40 (.int .u32 0) 4 Tryd.underlying23 info_u32 rfl _ xs.length _ rfl O2 A' ys.length c' (ys.map wv) rfl ((hy.below T2.bel).more T2.bel.size) (wv_oneCell ys) (by omega) (by omega) T2.m.lt ?_
          intro A4 c4 X3 O3 hb3 hk3
          have T3 : Tg w A xs.length c d X3 := ⟨T2.m.below hb3 (Nat.lt_succ_self _), T2.bel.trans (hb3.mono (Nat.le_succ _))⟩
          refine hK.out _ _ T3.cells (fun hHeld => ?_)
          clear hK K
          try simp only [Act.put, List.getElem_toArray, List.getElem_cons_succ, List.getElem_cons_zero, List.setIfInBounds_toArray, List.set_cons_zero, List.set_cons_succ]
          refine wpAnyH_take (i := 8) (v := ?_) rfl (by kernel_rfl) (by kernel_rfl) (by kernel_rfl) (fun _ _ _ h => h) (Or.inl ⟨by kernel_rfl, ?_⟩) (by assumption) ?_
          rotate_left
          · intro w hSw; (try dsimp only at hSw); go_simp; (try with_reducible rfl)
          try simp only [Act.put, List.getElem_toArray, List.getElem_cons_succ, List.getElem_cons_zero, List.setIfInBounds_toArray, List.set_cons_zero, List.set_cons_succ]
          refine wpAnyH_ready (rs := [9]) (by kernel_rfl) (by simp) ?_
          refine AllReadyH.cons rfl (fun K hK => ?_) AllReadyH.nil
          go_simp
          have T4 := T3.alloc (.cells #[.slice none 0 0, .int .i64 0] 25)
          have B4 := Blk.new X3 25 #[.slice none 0 0, .int .i64 0]
          have L4 := T3.m.lt
          have O4 := O3.alloc (.cells #[.slice none 0 0, .int .i64 0] 25)
          refine hK.out _ _ T4.cells (fun hHeld => ?_)
          clear hK K
          try simp only [Act.put, List.getElem_toArray, List.getElem_cons_succ, List.getElem_cons_zero, List.setIfInBounds_toArray, List.set_cons_zero, List.set_cons_succ]
          generalize X3.alloc (.cells #[.slice none 0 0, .int .i64 0] 25) = X4 at T4 B4 O4 hHeld ⊢
          generalize X3.heap.size = g4 at B4 L4 ⊢
          have x0 := B4.cell 0
          have x1 := B4.cell 1
          have f0 := B4.frozen 0
          have f1 := B4.frozen 1
          refine wpAnyH_ready (rs := [10]) (by kernel_rfl) (by simp) ?_
          refine AllReadyH.cons rfl (fun K hK => ?_) AllReadyH.nil
          go_simp
          have hG := Gs.of T4 B4 O4 L4
          refine hK.out _ _ hG.t.cells (fun hHeld => ?_)
          clear hK K
          try simp only [Act.put, List.getElem_toArray, List.getElem_cons_succ, List.getElem_cons_zero, List.setIfInBounds_toArray, List.set_cons_zero, List.set_cons_succ]
          refine wpAnyH_done (by kernel_rfl) ?_ _
          have HG : Hid (Rg w A c d xs ys (.pointer (some ⟨g4, 0, none⟩)) _) := Lib.hid ⟨g4, _, _, rfl, hG⟩
          clear x0 x1 f0 f1 hG hHeld
          go_wp2_with fail
          go_meet
          case rel => exact HG.out
        · skip
          go_simp
          have T5 := T2.alloc (.cells #[.slice none 0 0, .int .i64 0] 25)
          have B5 := Blk.new X2 25 #[.slice none 0 0, .int .i64 0]
          have L5 := T2.m.lt
          have O5 := O2.alloc (.cells #[.slice none 0 0, .int .i64 0] 25)
          refine hK.out _ _ T5.cells (fun hHeld => ?_)
          clear hK K
          try simp only [Act.put, List.getElem_toArray, List.getElem_cons_succ, List.getElem_cons_zero, List.setIfInBounds_toArray, List.set_cons_zero, List.set_cons_succ]
          generalize X2.alloc (.cells #[.slice none 0 0, .int .i64 0] 25) = X5 at T5 B5 O5 hHeld ⊢
          generalize X2.heap.size = g5 at B5 L5 ⊢
          refine wpAnyH_ready (rs := [5]) (by kernel_rfl) (by simp) ?_
          refine AllReadyH.cons rfl (fun K hK => ?_) AllReadyH.nil
          refine step_append_slx rfl _ _ 23 rfl (w.heap.size + 1) 40 (.int .u32 0) 4 Tryd.underlying23 info_u32 rfl _ xs.length _ rfl O5 A' ys.length c' (ys.map wv) rfl ((hy.below T5.bel).more T5.bel.size) (wv_oneCell ys) (by omega) (by omega) T5.m.lt ?_
          intro A4 c4 X6 O6 hb6 hk6
          have T6 : Tg w A xs.length c d X6 := ⟨T5.m.below hb6 (Nat.lt_succ_self _), T5.bel.trans (hb6.mono (Nat.le_succ _))⟩
          have B6 := B5.keep hk6 O5 (by decide)
          refine hK.out _ _ T6.cells (fun hHeld => ?_)
          clear hK K
          try simp only [Act.put, List.getElem_toArray, List.getElem_cons_succ, List.getElem_cons_zero, List.setIfInBounds_toArray, List.set_cons_zero, List.set_cons_succ]
          refine wpAnyH_take (i := 8) (v := ?_) rfl (by kernel_rfl) (by kernel_rfl) (by kernel_rfl) (fun _ _ _ h => h) (Or.inl ⟨by kernel_rfl, ?_⟩) (by assumption) ?_
          rotate_left
          · intro w hSw; (try dsimp only at hSw); go_simp; (try with_reducible rfl)
          try simp only [Act.put, List.getElem_toArray, List.getElem_cons_succ, List.getElem_cons_zero, List.setIfInBounds_toArray, List.set_cons_zero, List.set_cons_succ]
          have x0 := B6.cell 0
          have x1 := B6.cell 1
          have f0 := B6.frozen 0
          have f1 := B6.frozen 1
          refine wpAnyH_ready (rs := [10]) (by kernel_rfl) (by simp) ?_
          refine AllReadyH.cons rfl (fun K hK => ?_) AllReadyH.nil
          go_simp
          have hG := Gs.of T6 B6 O6 L5
          refine hK.out _ _ hG.t.cells (fun hHeld => ?_)
          clear hK K
          try simp only [Act.put, List.getElem_toArray, List.getElem_cons_succ, List.getElem_cons_zero, List.setIfInBounds_toArray, List.set_cons_zero, List.set_cons_succ]
          refine wpAnyH_done (by kernel_rfl) ?_ _
          have HG : Hid (Rg w A c d xs ys (.pointer (some ⟨g5, 0, none⟩)) _) := Lib.hid ⟨g5, _, _, rfl, hG⟩
          clear x0 x1 f0 f1 hG hHeld
          go_wp2_with fail
          go_meet
          case rel => exact HG.out
      · skip
        go_simp
        have T7 := T1.alloc (.cells #[.slice none 0 0, .int .i64 0] 25)
        have B7 := Blk.new X1 25 #[.slice none 0 0, .int .i64 0]
        have L7 := T1.m.lt
        have O7 := O1.alloc (.cells #[.slice none 0 0, .int .i64 0] 25)
        refine hK.out _ _ T7.cells (fun hHeld => ?_)
        clear hK K
        try simp only [Act.put, List.getElem_toArray, List.getElem_cons_succ, List.getElem_cons_zero, List.setIfInBounds_toArray, List.set_cons_zero, List.set_cons_succ]
        generalize X1.alloc (.cells #[.slice none 0 0, .int .i64 0] 25) = X7 at T7 B7 O7 hHeld ⊢
        generalize X1.heap.size = g7 at B7 L7 ⊢
        refine wpAnyH_ready (rs := [3]) (by kernel_rfl) (by simp) ?_
        refine AllReadyH.cons rfl (fun K hK => ?_) AllReadyH.nil
        refine step_append_slk rfl _ _ 23 rfl (w.heap.size + 1) 40 (.int .u32 0) 4 Tryd.underlying23 info_u32 rfl _ rfl O7 A xs.length c (xs.map wv) rfl ((hx.below T7.bel).more T7.bel.size) (wv_oneCell xs) (by omega) (by omega) T7.m.lt ?_
        intro A3 c3 X8 O8 hb8 hk8
        have T8 : Tg w A xs.length c d X8 := ⟨T7.m.below hb8 (Nat.lt_succ_self _), T7.bel.trans (hb8.mono (Nat.le_succ _))⟩
        have B8 : Blk X8 g7 25 #[.slice none 0 0, .int .i64 0] := (hk8 _ B7.lt (own_ne O7 B7 (by decide))).trans B7
        refine hK.out _ _ T8.cells (fun hHeld => ?_)
        clear hK K
        try simp only [Act.put, List.getElem_toArray, List.getElem_cons_succ, List.getElem_cons_zero, List.setIfInBounds_toArray, List.set_cons_zero, List.set_cons_succ]
        refine wpAnyH_ready (rs := [5]) (by kernel_rfl) (by simp) ?_
        refine AllReadyH.cons rfl (fun K hK => ?_) AllReadyH.nil
        refine step_append_slx rfl _ _ 23 rfl (w.heap.size + 1) 40 (.int .u32 0) 4 Tryd.underlying23 info_u32 rfl _ xs.length _ rfl O8 A' ys.length c' (ys.map wv) rfl ((hy.below T8.bel).more T8.bel.size) (wv_oneCell ys) (by omega) (by omega) T8.m.lt ?_
        intro A4 c4 X9 O9 hb9 hk9
        have T9 : Tg w A xs.length c d X9 := ⟨T8.m.below hb9 (Nat.lt_succ_self _), T8.bel.trans (hb9.mono (Nat.le_succ _))⟩
        have B9 := B8.keep hk9 O8 (by decide)
        refine hK.out _ _ T9.cells (fun hHeld => ?_)
        clear hK K
        try simp only [Act.put, List.getElem_toArray, List.getElem_cons_succ, List.getElem_cons_zero, List.setIfInBounds_toArray, List.set_cons_zero, List.set_cons_succ]
        refine wpAnyH_take (i := 8) (v := ?_) rfl (by kernel_rfl) (by kernel_rfl) (by kernel_rfl) (fun _ _ _ h => h) (Or.inl ⟨by kernel_rfl, ?_⟩) (by assumption) ?_
        rotate_left
        · intro w hSw; (try dsimp only at hSw); go_simp; (try with_reducible rfl)
        try simp only [Act.put, List.getElem_toArray, List.getElem_cons_succ, List.getElem_cons_zero, List.setIfInBounds_toArray, List.set_cons_zero, List.set_cons_succ]
        have x0 := B9.cell 0
        have x1 := B9.cell 1
        have f0 := B9.frozen 0
        have f1 := B9.frozen 1
        refine wpAnyH_ready (rs := [10]) (by kernel_rfl) (by simp) ?_
        refine AllReadyH.cons rfl (fun K hK => ?_) AllReadyH.nil
        go_simp
        have hG := Gs.of T9 B9 O9 L7
        refine hK.out _ _ hG.t.cells (fun hHeld => ?_)
        clear hK K
        try simp only [Act.put, List.getElem_toArray, List.getElem_cons_succ, List.getElem_cons_zero, List.setIfInBounds_toArray, List.set_cons_zero, List.set_cons_succ]
        refine wpAnyH_done (by kernel_rfl) ?_ _
        have HG : Hid (Rg w A c d xs ys (.pointer (some ⟨g7, 0, none⟩)) _) := Lib.hid ⟨g7, _, _, rfl, hG⟩
        clear x0 x1 f0 f1 hG hHeld
        go_wp2_with fail
        go_meet
        case rel => exact HG.out
    · skip
      go_simp
      have T10 := J0.alloc (.cells #[.slice none 0 0, .int .i64 0] 25)
      have B10 := Blk.new X 25 #[.slice none 0 0, .int .i64 0]
      have L10 := J0.m.lt
      refine hK.out _ _ T10.cells (fun hHeld => ?_)
      clear hK K
      try simp only [Act.put, List.getElem_toArray, List.getElem_cons_succ, List.getElem_cons_zero, List.setIfInBounds_toArray, List.set_cons_zero, List.set_cons_succ]
      generalize X.alloc (.cells #[.slice none 0 0, .int .i64 0] 25) = X10 at T10 B10 hHeld ⊢
      generalize X.heap.size = g10 at B10 L10 ⊢
      refine wpAnyH_ready (rs := [0]) (by kernel_rfl) (by simp) ?_
      refine AllReadyH.cons rfl (fun K hK => ?_) AllReadyH.nil
      go_simp
      have T11 := T10.alloc (.cells #[] 40)
      have O11 := own_none X10 (w.heap.size + 1) 40 T10.m.lt
      have B11 := B10.alloc (.cells #[] 40)
      refine hK.out _ _ T11.cells (fun hHeld => ?_)
      clear hK K
      try simp only [Act.put, List.getElem_toArray, List.getElem_cons_succ, List.getElem_cons_zero, List.setIfInBounds_toArray, List.set_cons_zero, List.set_cons_succ]
      generalize X10.alloc (.cells #[] 40) = X11 at T11 O11 B11 hHeld ⊢
      generalize X10.heap.size = r11 at O11 ⊢
      refine wpAnyH_ready (rs := [3]) (by kernel_rfl) (by simp) ?_
      refine AllReadyH.cons rfl (fun K hK => ?_) AllReadyH.nil
      refine step_append_slk rfl _ _ 23 rfl (w.heap.size + 1) 40 (.int .u32 0) 4 Tryd.underlying23 info_u32 rfl _ rfl O11 A xs.length c (xs.map wv) rfl ((hx.below T11.bel).more T11.bel.size) (wv_oneCell xs) (by omega) (by omega) T11.m.lt ?_
      intro A3 c3 X12 O12 hb12 hk12
      have T12 : Tg w A xs.length c d X12 := ⟨T11.m.below hb12 (Nat.lt_succ_self _), T11.bel.trans (hb12.mono (Nat.le_succ _))⟩
      have B12 : Blk X12 g10 25 #[.slice none 0 0, .int .i64 0] := (hk12 _ B11.lt (own_ne O11 B11 (by decide))).trans B11
      refine hK.out _ _ T12.cells (fun hHeld => ?_)
      clear hK K
      try simp only [Act.put, List.getElem_toArray, List.getElem_cons_succ, List.getElem_cons_zero, List.setIfInBounds_toArray, List.set_cons_zero, List.set_cons_succ]
      refine wpAnyH_ready (rs := [5]) (by kernel_rfl) (by simp) ?_
      refine AllReadyH.cons rfl (fun K hK => ?_) AllReadyH.nil
      refine step_append_slx rfl _ _ 23 rfl (w.heap.size + 1) 40 (.int .u32 0) 4 Tryd.underlying23 info_u32 rfl _ xs.length _ rfl O12 A' ys.length c' (ys.map wv) rfl ((hy.below T12.bel).more T12.bel.size) (wv_oneCell ys) (by omega) (by omega) T12.m.lt ?_
      intro A4 c4 X13 O13 hb13 hk13
      have T13 : Tg w A xs.length c d X13 := ⟨T12.m.below hb13 (Nat.lt_succ_self _), T12.bel.trans (hb13.mono (Nat.le_succ _))⟩
      have B13 := B12.keep hk13 O12 (by decide)
      refine hK.out _ _ T13.cells (fun hHeld => ?_)
      clear hK K
      try simp only [Act.put, List.getElem_toArray, List.getElem_cons_succ, List.getElem_cons_zero, List.setIfInBounds_toArray, List.set_cons_zero, List.set_cons_succ]
      refine wpAnyH_take (i := 8) (v := ?_) rfl (by kernel_rfl) (by kernel_rfl) (by kernel_rfl) (fun _ _ _ h => h) (Or.inl ⟨by kernel_rfl, ?_⟩) (by assumption) ?_
      rotate_left
      · intro w hSw; (try dsimp only at hSw); go_simp; (try with_reducible rfl)
      try simp only [Act.put, List.getElem_toArray, List.getElem_cons_succ, List.getElem_cons_zero, List.setIfInBounds_toArray, List.set_cons_zero, List.set_cons_succ]
      have x0 := B13.cell 0
      have x1 := B13.cell 1
      have f0 := B13.frozen 0
      have f1 := B13.frozen 1
      refine wpAnyH_ready (rs := [10]) (by kernel_rfl) (by simp) ?_
      refine AllReadyH.cons rfl (fun K hK => ?_) AllReadyH.nil
      go_simp
      have hG := Gs.of T13 B13 O13 L10
      refine hK.out _ _ hG.t.cells (fun hHeld => ?_)
      clear hK K
      try simp only [Act.put, List.getElem_toArray, List.getElem_cons_succ, List.getElem_cons_zero, List.setIfInBounds_toArray, List.set_cons_zero, List.set_cons_succ]
      refine wpAnyH_done (by kernel_rfl) ?_ _
      have HG : Hid (Rg w A c d xs ys (.pointer (some ⟨g10, 0, none⟩)) _) := Lib.hid ⟨g10, _, _, rfl, hG⟩
      clear x0 x1 f0 f1 hG hHeld
      go_wp2_with fail
      go_meet
      case rel => exact HG.out
  case rest =>
    clear t0 t1 J0 T2
    obtain ⟨g, A3, c3, rfl, hG⟩ := hcut
    obtain ⟨⟨t0, t1⟩, t2, t3⟩ := hG.cells
    go_wp2_with fail
    refine (K1.out _ hG.t.bel).mono ?_
    rintro e w3 ⟨⟨B1, k1, rfl, S1⟩, b3⟩
    have G3 := hG.below b3
    clear t0 t1 t2 t3 hG b3
    obtain ⟨⟨t0, t1⟩, t2, t3⟩ := G3.cells
    go_wp2_with fail
    refine (K2.out A3 c3 _ G3.s).mono ?_
    rintro e w4 ⟨⟨B2, k2, rfl, S2⟩, b4⟩
    have G4 := G3.below b4
    have S1' := S1.below b4
    clear t0 t1 t2 t3 G3 S1 b4
    by_cases hl : (targL xs).length = (targL (xs ++ ys)).length
    · rw [← hl] at S2 hlen2 ⊢
      have HL := Lib.hid hl
      clear hl
      go_wp2_with fail
      go_loopw [8] (fun i wr => ∃ j : Nat, j ≤ (targL xs).length ∧ i = .int .i64 j ∧ Sl wr w3.heap.size B1 (targL xs).length ((targL xs).map tv) ∧ Sl wr w4.heap.size B2 (targL xs).length ((targL (xs ++ ys)).map tv) ∧ Gs w A xs.length c d g A3 (xs.length + ys.length) c3 (xs.map wv ++ ys.map wv) wr ∧ ∀ i, i < j → (targL xs)[i]? = (targL (xs ++ ys))[i]?) (fun i _ => (targL xs).length - (intOf i).toNat)
      case atStart => exact ⟨0, Nat.zero_le _, rfl, S1', S2, G4, fun i hi => absurd hi (by omega)⟩
      case round =>
        clear S1' S2 G4
        obtain ⟨j, hj, rfl, h3, h4, hG, hall⟩ := hrel
        have HALL := Lib.hid hall
        have HG := Lib.hid hG
        clear hall hG
        by_cases hlt : j < (targL xs).length
        · have hlt2 : j < (targL (xs ++ ys)).length := by have := HL.out; omega
          obtain ⟨x1, o1, rfl, _, e1⟩ := sl_targ h3 hlt
          obtain ⟨x2, o2, rfl, _, e2⟩ := sl_targ h4 hlt2
          have HE1 := Lib.hid (List.getElem?_eq_getElem hlt)
          have HE2 := Lib.hid (List.getElem?_eq_getElem hlt2)
          obtain ⟨y, hy⟩ : ∃ y, (targL xs)[j] = y := ⟨_, rfl⟩
          obtain ⟨z, hz⟩ : ∃ z, (targL (xs ++ ys))[j] = z := ⟨_, rfl⟩
          rw [hy] at e1 HE1
          rw [hz] at e2 HE2
          have hjI : (j : Int) < (targL xs).length := by omega
          have hj0 : (0 : Int) ≤ j := by omega
          have H3 := Lib.hid h3
          have H4 := Lib.hid h4
          clear h3 h4 hy hz hlt2
          by_cases hyz : y = z
          · subst hyz
            go_wp2_with fail
            go_quiet (fail)
            go_wp2_with fail
            go_roundw
            case rel =>
              refine ⟨j + 1, hlt, by simp, H3.out, H4.out, HG.out.drewN _, fun i hi => ?_⟩
              by_cases e : i = j
              · subst e; exact HE1.out.trans HE2.out.symm
              · exact HALL.out i (by omega)
            case measure => simp [intOf]; omega
          · have q1 : ((y : Int) != (z : Int)) = true := by rw [bne_iff_ne]; omega
            have q2 : ((y : Int) == (z : Int)) = false := by rw [beq_eq_false_iff_ne]; omega
            clear hyz
            go_wp2_with fail
            go_quiet (fail)
            go_wp2_with fail
            go_returns
            exact ⟨rfl, below_drewN HG.out.t.bel _⟩
        · obtain rfl : j = (targL xs).length := by omega
          have HT : Hid (targL xs = targL (xs ++ ys)) := Lib.hid (by
            apply List.ext_getElem?
            intro i
            by_cases hi : i < (targL xs).length
            · exact HALL.out i hi
            · rw [List.getElem?_eq_none (by omega), List.getElem?_eq_none (by have := HL.out; omega)])
          obtain ⟨⟨t0, t1⟩, t2, t3⟩ := HG.out.cells
          clear h3 h4 HALL HL
          go_wp2_with fail
          refine (K3.out _ HG.out.t.bel).mono ?_
          rintro e w5 ⟨⟨s, rfl, hs⟩, b5⟩
          have G5 := HG.out.below b5
          clear t0 t1 t2 t3 b5
          obtain ⟨⟨t0, t1⟩, t2, t3⟩ := G5.cells
          go_wp2_with fail
          refine (K4.out A3 c3 _ G5.s (hp.below G5.t.bel)).mono ?_
          rintro e w6 ⟨⟨t, rfl, ht⟩, b6⟩
          have G6 := Lib.hid (G5.below b6)
          obtain ⟨z1, z2⟩ := goes_front HT.out hs.out ht.out
          have f1 : (s.size : Int) ≤ t.size := by omega
          clear t0 t1 t2 t3 b6 G5 z1
          go_wp2_with fail
          try (go_quiet (fail))
          try (go_wp2_with fail)
          go_returns
          first | exact ⟨ret_bool (by simp), G6.out.t.bel⟩ | exact ⟨ret_bool (by simp), below_drewN G6.out.t.bel _⟩
    · have q1 : ((((targL xs).length : Nat) : Int) != (((targL (xs ++ ys)).length : Nat) : Int)) = true := by rw [bne_iff_ne]; omega
      have q2 : ((((targL xs).length : Nat) : Int) == (((targL (xs ++ ys)).length : Nat) : Int)) = false := by rw [beq_eq_false_iff_ne]; omega
      clear hl S1' S2
      go_wp2_with fail
      go_returns
      exact ⟨rfl, G4.t.bel⟩
end Go.Proofs.YtneebohaanjejaaDoor
