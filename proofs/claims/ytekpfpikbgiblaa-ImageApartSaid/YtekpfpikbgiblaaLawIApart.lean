/- ImageApart: the law's own text, walked. -/
import Derived.Test.YtekpfpikbgiblaaImgA
import Derived.Test.YtekpfpikbgiblaaImgN
import Derived.Test.YtekpfpikbgiblaaImgT
import Derived.Deep.DrawnRows
namespace Go.Proofs.Ytekpfpikbgiblaa
open Go.RowKit

theorem own_none (w : World) (B E : Nat) (hB : B ≤ w.heap.size) : (w.alloc (.cells #[] E)).ownsRow B E 1 (.slice (some ⟨w.heap.size, 0, none⟩) 0 0) 0 [] :=
  ⟨rfl, .inr ⟨w.heap.size, 0, #[], rfl, hB, heap_alloc_new w _, Nat.le_refl _, by unfold maxLen; omega, rfl, rfl⟩⟩
theorem Im2.below2 {w : World} {v1 v2 : Value} {d1 d2 : Int} {W W' : World} (h : Im2 w v1 d1 v2 d2 W) {B : Nat} (hB : w.heap.size + 2 ≤ B) (hb : Below B W W') : Im2 w v1 d1 v2 d2 W' := ⟨h.a.below hb (by omega), h.b.below hb (by omega), h.bel.trans (hb.mono (by omega))⟩
theorem Im2.sz {w : World} {v1 v2 : Value} {d1 d2 : Int} {W : World} (h : Im2 w v1 d1 v2 d2 W) : w.heap.size + 2 ≤ W.heap.size := h.b.lt

set_option maxHeartbeats 2000000 in
theorem apart_no (xs ys : List UInt32) (A A' : Option Addr) (c c' : Nat) (d d' at0 : Int) (w : World) (h : (xs.length ≤ 500 ∧ ys.length ≤ 500 ∧ rightB xs.length d = true ∧ rightB ys.length d' = true) → False) :
    Calls Try.prog 3 #[.agg #[.slice A xs.length c, .int .i64 d], .agg #[.slice A' ys.length c', .int .i64 d'], .int .i64 at0] w fun e w' => e = .returned (.bool true) ∧ Below w.heap.size w w' := by
  have I0 := Im2.new w (.slice A xs.length c) d (.slice A' ys.length c') d'
  have hc : 500 < xs.length ∨ (xs.length ≤ 500 ∧ 500 < ys.length) ∨ (xs.length ≤ 500 ∧ ys.length ≤ 500) := by omega
  rcases hc with hc | ⟨hc, hc2⟩ | ⟨hc, hc2⟩
  · clear h
    go_enter Try.func3, Try.ntmps3
    go_wp2_with fail
    refine (img_awake _).mono ?_
    rintro e w1 ⟨rfl, hb1⟩
    have I1 := I0.below hb1
    obtain ⟨a0, a1, b0, b1, _⟩ := I1.all
    go_wp2_with fail
    go_returns
    exact ⟨rfl, I1.bel⟩
  · clear h
    go_enter Try.func3, Try.ntmps3
    go_wp2_with fail
    refine (img_awake _).mono ?_
    rintro e w1 ⟨rfl, hb1⟩
    have I1 := I0.below hb1
    obtain ⟨a0, a1, b0, b1, _⟩ := I1.all
    go_wp2_with fail
    go_returns
    exact ⟨rfl, I1.bel⟩
  · have hr : rightB xs.length d = false ∨ (rightB xs.length d = true ∧ rightB ys.length d' = false) := by
      cases h1 : rightB xs.length d with
      | false => exact .inl rfl
      | true =>
        cases h2 : rightB ys.length d' with
        | false => exact .inr ⟨rfl, rfl⟩
        | true => exact absurd ⟨hc, hc2, h1, h2⟩ h
    clear h
    have k1 := ref_Right A xs.length c d
    have k2 := ref_Right A' ys.length c' d'
    rcases hr with h1 | ⟨h1, h2⟩
    · rw [h1] at k1
      have K1 := Lib.hid k1
      clear k1 k2 h1
      go_enter Try.func3, Try.ntmps3
      go_wp2_with fail
      refine (img_awake _).mono ?_
      rintro e w1 ⟨rfl, hb1⟩
      have I1 := I0.below hb1
      obtain ⟨a0, a1, b0, b1, _⟩ := I1.all
      go_wp2_with fail
      refine (K1.out _).mono ?_
      rintro e w2 ⟨rfl, hb2⟩
      have I2 := I1.below hb2
      go_wp2_with fail
      go_returns
      exact ⟨rfl, I2.bel⟩
    · rw [h1] at k1
      rw [h2] at k2
      have K1 := Lib.hid k1
      have K2 := Lib.hid k2
      clear k1 k2 h1 h2
      go_enter Try.func3, Try.ntmps3
      go_wp2_with fail
      refine (img_awake _).mono ?_
      rintro e w1 ⟨rfl, hb1⟩
      have I1 := I0.below hb1
      obtain ⟨a0, a1, b0, b1, _⟩ := I1.all
      go_wp2_with fail
      refine (K1.out _).mono ?_
      rintro e w2 ⟨rfl, hb2⟩
      have I2 := I1.below hb2
      clear I0 I1 a0 a1 b0 b1 hb1 hb2
      obtain ⟨a0, a1, b0, b1, _⟩ := I2.all
      go_wp2_with fail
      refine (K2.out _).mono ?_
      rintro e w3 ⟨rfl, hb3⟩
      have I3 := I2.below hb3
      go_wp2_with fail
      go_returns
      exact ⟨rfl, I3.bel⟩
theorem step_append_slk {P : Program} {ops : Array Oper} {o : Oper} {a : Act} {K : Act → World → Prop} {Q : Exit → Act → World → Prop} {X : Prop} {w : World}
    (hgd : o.guard = none) (s x : Operand) (t : TypeId) (ho : o.op = .call { callee := .builtin .append, args := #[s, x], argTypes := #[t, t] })
    (B : Nat) (E : TypeId) (z : Value) (bytes : Nat) (ht : P.underlying t = some (.slice E)) (hinfo : (P.info? E).map (fun i => (i.zero, i.size, i.bytes)) = some (some z, 1, bytes))
    (hzs : z.cells.size = 1) (r : Nat) (hs : a.eval s = .slice (some ⟨r, 0, none⟩) 0 0) (hown : w.ownsRow B E 1 (.slice (some ⟨r, 0, none⟩) 0 0) 0 [])
    (A : Option Addr) (m c : Nat) (ys : List Value) (hx : a.eval x = .slice A m c) (hS : Sl w w.heap.size A m ys) (h1 : ∀ u ∈ ys, u.oneCell' = true)
    (hbytes : m * bytes ≤ 140737488355328) (h63 : m ≤ 140737488355328) (hB : B ≤ w.heap.size)
    (h : ∀ A' c' w', w'.ownsRow B E 1 (.slice A' m c') m ys → Below B w w' → (∀ k, k < w.heap.size → k ≠ r → w'.heap[k]? = w.heap[k]?) → K (a.put o.dst (.slice A' m c')) w') :
    if Region.wanted o (yielded ops a.tmps) = true then Oper.wp P o a w K Q else X := by
  obtain ⟨i0, hi, hz0, hz1, hz2⟩ := info_parts hinfo
  rw [if_pos (by simp [Region.wanted, hgd])]
  by_cases hm : m = 0
  · subst hm
    have hys : ys = [] := List.eq_nil_of_length_eq_zero hS.1
    subst hys
    have hsrc : Src P i0.size t (.slice A 0 c) 0 [] w := by
      refine ⟨.inl ⟨E, ht⟩, fun w' => ?_, ?_, ?_, by simp, by simp⟩
      · cases A <;> simp [Builtin.lenOf]
      · cases A <;> simp [Builtin.firstCells, loadCells, loadCellsFrom]
      · cases A <;> simp [Builtin.firstCells, loadCells, loadCellsFrom]
    have hr := run_append_nothing w t t o.type E i0 ht hi (some ⟨r, 0, none⟩) 0 0 (Nat.le_refl _) (.slice A 0 c) hsrc
    unfold Oper.wp execOp
    simp only [ho, resolve, invoke, builtin, Sem.run_bind, Sem.run_pure, Result.andThen_ok, List.map_toArray, List.map_cons, List.map_nil, hs, hx, hr]
    exact h _ _ w hown (Below.refl _ w) (fun _ _ _ => rfl)
  · obtain ⟨b, off, rfl, hb, hc⟩ := hS.2 (by omega)
    refine wp_append_own _ s x t ho B E i0 z 1 bytes ht hi hz0 hz1 hz2 hzs (by decide) _ 0 [] hs hown ⟨b, off, none⟩ m c ys hx (by rw [hS.1]; omega) (fun j u hj => ?_) h1 (by unfold maxLen; omega) (by rw [Nat.zero_add]; exact hbytes) hB ?_
    · have := hc j u hj
      have e : (⟨b, off, none⟩ : Addr).add j = ⟨b, off + j, none⟩ := by unfold Addr.add; split <;> simp_all
      rw [e]; exact this
    · intro v' w' hown' hg _
      rw [Nat.zero_add, List.nil_append] at hown'
      rcases hown'.2 with ⟨_, h0⟩ | ⟨g, cap, cur, rfl, _⟩
      · omega
      refine h _ _ w' hown' ((Below.refl B w).grown hg hB (fun k hk => (hown.lt k hk).1)) (fun k hk hne => hg.block k hk (fun e => hne ?_))
      have e2 : some k = some r := e
      exact Option.some.inj e2
theorem own_other {w : World} {B E n g i : Nat} {t : TypeId} {v u : Value} {xs : List Value} {cs : Array Value} (h : w.ownsRow B E 1 v n xs) (hb : Blk w g t cs) (hne : t ≠ E) : (w.setCell ⟨g, i, none⟩ u).ownsRow B E 1 v n xs := by
  obtain ⟨h1, h2⟩ := h
  refine ⟨h1, ?_⟩
  rcases h2 with hn | ⟨r, cap, cur, hv, hBr, hr, rest⟩
  · exact .inl hn
  · refine .inr ⟨r, cap, cur, hv, hBr, ?_, rest⟩
    have hrg : r ≠ g := by
      rintro rfl
      rw [show w.heap[r]? = _ from hb] at hr
      simp only [Option.some.injEq, Obj.cells.injEq] at hr
      exact hne hr.2.1
    exact (Below.heap_setCell w ⟨g, i, none⟩ u r hrg).trans hr
theorem own_drew {w : World} {B E n : Nat} {v : Value} {xs : List Value} (h : w.ownsRow B E 1 v n xs) : w.drew.ownsRow B E 1 v n xs := h
theorem own_sl {w : World} {B E n c : Nat} {A : Option Addr} {xs : List Value} (h : w.ownsRow B E 1 (.slice A n c) n xs) : Sl w w.heap.size A n xs := by
  obtain ⟨A', c', e, _, _, hS⟩ := Sl.of_own h
  simp only [Value.slice.injEq] at e
  obtain ⟨rfl, -, rfl⟩ := e
  exact hS
theorem own_ne {w : World} {B E n g r c : Nat} {t : TypeId} {xs : List Value} {cs : Array Value} (h : w.ownsRow B E 1 (.slice (some ⟨r, 0, none⟩) n c) n xs) (hb : Blk w g t cs) (hne : t ≠ E) : g ≠ r := by
  rintro rfl
  rcases h.2 with ⟨h0, _⟩ | ⟨g', cap, cur, hv, hBr, hr, rest⟩
  · cases h0
  · simp only [Value.slice.injEq, Option.some.injEq, Addr.mk.injEq] at hv
    obtain ⟨⟨rfl, -, -⟩, -, -⟩ := hv
    rw [show w.heap[g]? = _ from hb] at hr
    simp only [Option.some.injEq, Obj.cells.injEq] at hr
    exact hne hr.2.1
/-- What the main part of the walk holds: the boxes of both images, and that of a third one. -/
structure Im3 (w : World) (v1 : Value) (d1 : Int) (v2 : Value) (d2 : Int) (g : Nat) (v3 : Value) (d3 : Int) (W : World) : Prop where
  im : Im2 w v1 d1 v2 d2 W
  c : Blk W g 24 #[v3, .int .i64 d3]
  lt : w.heap.size + 2 ≤ g
section
variable {w W W' : World} {v1 v2 v3 : Value} {d1 d2 d3 : Int} {g : Nat}
theorem Im3.below (h : Im3 w v1 d1 v2 d2 g v3 d3 W) (hb : Below W.heap.size W W') : Im3 w v1 d1 v2 d2 g v3 d3 W' := ⟨h.im.below hb, h.c.below hb h.c.lt, h.lt⟩
theorem Im3.drew (h : Im3 w v1 d1 v2 d2 g v3 d3 W) : Im3 w v1 d1 v2 d2 g v3 d3 W.drew := h.below (Below.refl _ W).drew
theorem Im3.all (h : Im3 w v1 d1 v2 d2 g v3 d3 W) : W.cell? ⟨w.heap.size, 0, none⟩ = some v1 ∧ W.cell? ⟨w.heap.size, 1, none⟩ = some (.int .i64 d1) ∧ W.cell? ⟨g, 0, none⟩ = some v3 ∧ W.cell? ⟨g, 1, none⟩ = some (.int .i64 d3) ∧ W.frozen? ⟨g, 0, none⟩ = false ∧ W.frozen? ⟨g, 1, none⟩ = false :=
  ⟨h.im.a.cell 0, h.im.a.cell 1, h.c.cell 0, h.c.cell 1, h.c.frozen 0, h.c.frozen 1⟩
theorem Im3.set1 (h : Im3 w v1 d1 v2 d2 g v3 d3 W) (d : Int) : Im3 w v1 d1 v2 d2 g v3 d (W.setCell ⟨g, 1, none⟩ (.int .i64 d)) :=
  ⟨h.im.below2 (B := w.heap.size + 2) (Nat.le_refl _) ((Below.refl _ W).setCell (p := ⟨g, 1, none⟩) h.lt _), h.c.set 1 (.int .i64 d), h.lt⟩
theorem Im3.far (h : Im3 w v1 d1 v2 d2 g v3 d3 W) {p : Addr} (hp : w.heap.size + 2 ≤ p.block) (hg : g ≠ p.block) (u : Value) : Im3 w v1 d1 v2 d2 g v3 d3 (W.setCell p u) :=
  ⟨h.im.below2 (B := w.heap.size + 2) (Nat.le_refl _) ((Below.refl _ W).setCell hp _), h.c.far hg u, h.lt⟩
end
set_option maxHeartbeats 4000000 in
theorem apart_yes (xs ys : List UInt32) (A A' : Option Addr) (c c' : Nat) (d d' at0 : Int) (w : World) (hx : Sl w w.heap.size A xs.length (xs.map wv)) (hy : Sl w w.heap.size A' ys.length (ys.map wv))
    (h1 : xs.length ≤ 500) (h2 : ys.length ≤ 500) (hr1 : rightB xs.length d = true) (hr2 : rightB ys.length d' = true) :
    Calls Try.prog 3 #[.agg #[.slice A xs.length c, .int .i64 d], .agg #[.slice A' ys.length c', .int .i64 d'], .int .i64 at0] w fun e w' => e = .returned (.bool true) ∧ Below w.heap.size w w' := by
  have I0 := Im2.new w (.slice A xs.length c) d (.slice A' ys.length c') d'
  have k1 := ref_Right A xs.length c d
  have k2 := ref_Right A' ys.length c' d'
  rw [hr1] at k1
  rw [hr2] at k2
  have K1 := Lib.hid k1
  have K2 := Lib.hid k2
  have HR1 := Lib.hid hr1
  have HR2 := Lib.hid hr2
  obtain ⟨_, hd0, hd1⟩ := of_decide_eq_true hr1
  have hr3 : rightB xs.length (32768 - d) = true := decide_eq_true ⟨by omega, by omega, by omega⟩
  have HR3 := Lib.hid hr3
  clear k1 k2 hr1 hr2 hr3
  go_enter Try.func3, Try.ntmps3
  go_wp2_with fail
  refine (img_awake _).mono ?_
  rintro e w1 ⟨rfl, hb1⟩
  have I1 := I0.below hb1
  obtain ⟨a0, a1, b0, b1, _⟩ := I1.all
  clear hb1 I0
  go_wp2_with fail
  refine (K1.out _).mono ?_
  rintro e w2 ⟨rfl, hb2⟩
  have I2 := I1.below hb2
  clear I1 a0 a1 b0 b1 hb2
  obtain ⟨a0, a1, b0, b1, _⟩ := I2.all
  go_wp2_with fail
  refine (K2.out _).mono ?_
  rintro e w3 ⟨rfl, hb3⟩
  have I3 := I2.below hb3
  clear I2 a0 a1 b0 b1 hb3
  obtain ⟨a0, a1, b0, b1, _⟩ := I3.all
  go_wp2_with fail
  refine (image_Put A xs c d _ ((hx.below I3.bel).more I3.bel.size) HR1.out).mono ?_
  rintro e w4 ⟨⟨s, rfl, hs⟩, hb4⟩
  have I4 := I3.below hb4
  clear I3 a0 a1 b0 b1 hb4
  obtain ⟨a0, a1, b0, b1, _⟩ := I4.all
  go_wp2_with fail
  refine (image_Put A' ys c' d' _ ((hy.below I4.bel).more I4.bel.size) HR2.out).mono ?_
  rintro e w5 ⟨⟨t, rfl, ht⟩, hb5⟩
  have I5 := I4.below hb5
  clear I4 a0 a1 b0 b1 hb5
  obtain ⟨a0, a1, b0, b1, _⟩ := I5.all
  have hst : (s.toList == t.toList) = sameB xs ys d d' := by
    rw [Bool.eq_iff_iff, beq_iff_eq, Lib.toList_data, Lib.toList_data, hs.out, ht.out]
    exact put_eq HR1.out HR2.out
  obtain ⟨z, hz⟩ : ∃ z, sameB xs ys d d' = z := ⟨_, rfl⟩
  have k3 := fun W hx' hy' => image_Same xs ys A A' c c' d d' W hx' hy' (by omega)
  rw [hz] at hst k3
  have K3 := Lib.hid k3
  clear hz k3
  go_wp2_with fail
  refine (K3.out _ ((hx.below I5.bel).more I5.bel.size) ((hy.below I5.bel).more I5.bel.size)).mono ?_
  rintro e w6 ⟨rfl, hb6⟩
  have I6 := I5.below hb6
  clear I5 a0 a1 b0 b1 hb6
  obtain ⟨a0, a1, b0, b1, _⟩ := I6.all
  go_wp2_with fail
  have J0 := I6.drew
  have w6s := J0.sz
  have hwr : IntKind.i64.wrap (32768 - d) = 32768 - d := by rw [IntKind.wrap_i64]; omega
  refine wp_region_held_drew (S := (fun W => W.cell? ⟨w.heap.size, 0, none⟩ = some (.slice A xs.length c) ∧ W.cell? ⟨w.heap.size, 1, none⟩ = some (.int .i64 d))) (by kernel_rfl) ⟨a0, a1⟩ (fun hHeld => ?_)
  generalize w6.drew = X at J0 hHeld w6s ⊢
  refine wpAnyH_take (i := 0) (v := ?_) rfl (by kernel_rfl) (by kernel_rfl) (by kernel_rfl) (fun _ _ _ h => h) (Or.inl ⟨by kernel_rfl, ?_⟩) (by assumption) ?_
  rotate_left
  · intro w hSw; (try dsimp only at hSw); go_simp; (try with_reducible rfl)
  try simp only [Act.put, List.getElem_toArray, List.getElem_cons_zero, List.setIfInBounds_toArray, List.set_cons_zero, List.set_cons_succ]
  refine wpAnyH_take (i := 1) (v := ?_) rfl (by kernel_rfl) (by kernel_rfl) (by kernel_rfl) (fun _ _ _ h => h) (Or.inl ⟨by kernel_rfl, ?_⟩) (by assumption) ?_
  rotate_left
  · intro w hSw; (try dsimp only at hSw); go_simp; (try with_reducible rfl)
  try simp only [Act.put, List.getElem_toArray, List.getElem_cons_succ, List.getElem_cons_zero, List.setIfInBounds_toArray, List.set_cons_zero, List.set_cons_succ]
  refine wpAnyH_take (i := 2) (v := ?_) rfl (by kernel_rfl) (by kernel_rfl) (by kernel_rfl) (fun _ _ _ h => h) (Or.inl ⟨by kernel_rfl, ?_⟩) (by assumption) ?_
  rotate_left
  · intro w hSw; (try dsimp only at hSw); go_simp; (try with_reducible rfl)
  try simp only [Act.put, List.getElem_toArray, List.getElem_cons_succ, List.getElem_cons_zero, List.setIfInBounds_toArray, List.set_cons_zero, List.set_cons_succ]
  refine wpAnyH_take (i := 4) (v := ?_) rfl (by kernel_rfl) (by kernel_rfl) (by kernel_rfl) (fun _ _ _ h => h) (Or.inl ⟨by kernel_rfl, ?_⟩) (by assumption) ?_
  rotate_left
  · intro w hSw; (try dsimp only at hSw); go_simp; (try with_reducible rfl)
  try simp only [Act.put, List.getElem_toArray, List.getElem_cons_succ, List.getElem_cons_zero, List.setIfInBounds_toArray, List.set_cons_zero, List.set_cons_succ]
  refine wpAnyH_take (i := 5) (v := ?_) rfl (by kernel_rfl) (by kernel_rfl) (by kernel_rfl) (fun _ _ _ h => h) (Or.inl ⟨by kernel_rfl, ?_⟩) (by assumption) ?_
  rotate_left
  · intro w hSw; (try dsimp only at hSw); go_simp; (try with_reducible rfl)
  try simp only [Act.put, List.getElem_toArray, List.getElem_cons_succ, List.getElem_cons_zero, List.setIfInBounds_toArray, List.set_cons_zero, List.set_cons_succ]
  clear a0 a1 b0 b1
  refine wpAnyH_ready (rs := [3, 8]) (by kernel_rfl) (by simp) ?_
  refine AllReadyH.cons rfl (fun K hK => ?_) (AllReadyH.cons rfl (fun K hK => ?_) AllReadyH.nil)
  · go_simp
    have JA := J0.alloc (.cells #[] 31)
    refine hK.out _ _ ⟨JA.all.1, JA.all.2.1⟩ (fun hHeld => ?_)
    clear hK K
    try simp only [Act.put, List.getElem_toArray, List.getElem_cons_succ, List.getElem_cons_zero, List.setIfInBounds_toArray, List.set_cons_zero, List.set_cons_succ]
    refine wpAnyH_ready (rs := [6, 8]) (by kernel_rfl) (by simp) ?_
    refine AllReadyH.cons rfl (fun K hK => ?_) (AllReadyH.cons rfl (fun K hK => ?_) AllReadyH.nil)
    · refine step_append_slk rfl _ _ 22 rfl (w.heap.size + 2) 31 (.int .u32 0) 4 Try.underlying22 info_u32 rfl _ rfl (own_none X _ _ w6s) A xs.length c (xs.map wv) rfl ((hx.below JA.bel).more JA.bel.size) (wv_oneCell xs) (by omega) (by omega) JA.sz ?_
      intro A3 c3 w7 hO7 hb7 hk7
      have JB := JA.below2 (Nat.le_refl _) hb7
      have w7s := JB.sz
      refine hK.out _ _ ⟨JB.all.1, JB.all.2.1⟩ (fun hHeld => ?_)
      clear hK K
      try simp only [Act.put, List.getElem_toArray, List.getElem_cons_succ, List.getElem_cons_zero, List.setIfInBounds_toArray, List.set_cons_zero, List.set_cons_succ]
      refine wpAnyH_take (i := 7) (v := ?_) rfl (by kernel_rfl) (by kernel_rfl) (by kernel_rfl) (fun _ _ _ h => h) (Or.inl ⟨by kernel_rfl, ?_⟩) (by assumption) ?_
      rotate_left
      · intro w hSw; (try dsimp only at hSw); go_simp; (try with_reducible rfl)
      try simp only [Act.put, List.getElem_toArray, List.getElem_cons_succ, List.getElem_cons_zero, List.setIfInBounds_toArray, List.set_cons_zero, List.set_cons_succ]
      refine wpAnyH_ready (rs := [8]) (by kernel_rfl) (by simp) ?_
      refine AllReadyH.cons rfl (fun K hK => ?_) AllReadyH.nil
      go_simp
      have JC := JB.alloc (.cells #[.slice none 0 0, .int .i64 0] 24)
      refine hK.out _ _ ⟨JC.all.1, JC.all.2.1⟩ (fun hHeld => ?_)
      clear hK K
      try simp only [Act.put, List.getElem_toArray, List.getElem_cons_succ, List.getElem_cons_zero, List.setIfInBounds_toArray, List.set_cons_zero, List.set_cons_succ]
      have hgl := w7s
      refine wpAnyH_ready (rs := [9]) (by kernel_rfl) (by simp) ?_
      refine AllReadyH.cons rfl (fun K hK => ?_) AllReadyH.nil
      go_simp
      have hI3 : Im3 w (.slice A xs.length c) d (.slice A' ys.length c') d' w7.heap.size (.slice A3 xs.length c3) (32768 - d) (w7.alloc (.cells #[.slice A3 xs.length c3, .int .i64 (32768 - d)] 24)) := ⟨JB.alloc _, Blk.new w7 _ _, hgl⟩
      have hO2 := hO7.alloc (.cells #[.slice A3 xs.length c3, .int .i64 (32768 - d)] 24)
      refine hK.out _ _ ⟨hI3.im.all.1, hI3.im.all.2.1⟩ (fun hHeld => ?_)
      clear hK K
      try simp only [Act.put, List.getElem_toArray, List.getElem_cons_succ, List.getElem_cons_zero, List.setIfInBounds_toArray, List.set_cons_zero, List.set_cons_succ]
      refine wpAnyH_done (by kernel_rfl) ?_ _
      generalize w7.alloc _ = Wf at hI3 hO2 hHeld ⊢
      generalize w7.heap.size = g at hI3 ⊢
      have hS3 := own_sl hO2
      obtain ⟨a0, a1, q0, q1, f0, f1⟩ := hI3.all
      clear hHeld
      go_wp2_with fail
      refine (image_Put A3 xs c3 (32768 - d) _ hS3 HR3.out).mono ?_
      rintro e w8 ⟨⟨u, rfl, hu⟩, hb8⟩
      have I8 := hI3.below hb8
      have O8 := own_below hO2 rfl hb8
      clear hI3 hO2 hS3 hb8 a0 a1 q0 q1 f0 f1
      obtain ⟨a0, a1, q0, q1, f0, f1⟩ := I8.all
      obtain ⟨z2, hz2⟩ : ∃ z2, (d == 16384) = z2 := ⟨_, rfl⟩
      have hus : (u.toList == s.toList) = z2 := by
        rw [← hz2, Bool.eq_iff_iff, beq_iff_eq, beq_iff_eq, Lib.toList_data, Lib.toList_data, hu.out, hs.out]
        exact ⟨fun e => by have := (put_inj HR3.out HR1.out e).2; omega, fun e => by rw [show 32768 - d = d by omega]⟩
      have hcase : at0 < 0 ∨ (0 ≤ at0 ∧ (xs.length : Int) ≤ at0) ∨ (0 ≤ at0 ∧ at0 < xs.length) := by omega
      rcases hcase with hc1 | ⟨hc0, hc1⟩ | ⟨hc0, hc1⟩
      · go_wp2_with fail
        go_returns
        exact ⟨rfl, I8.im.bel⟩
      · go_wp2_with fail
        go_returns
        exact ⟨rfl, I8.im.bel⟩
      · obtain ⟨k, rfl⟩ : ∃ k : Nat, at0 = k := ⟨at0.toNat, by omega⟩
        have hk : k < xs.length := by omega
        obtain ⟨x, hxk⟩ : ∃ x, xs[k] = x := ⟨_, rfl⟩
        obtain ⟨r, cap, hrv, hrB, hrl, _⟩ := own_form O8 (by omega)
        simp only [Value.slice.injEq] at hrv
        obtain ⟨hA3, -, hcc⟩ := hrv
        subst hA3
        subst hcc
        have hel : (xs.map wv)[k]? = some (.int .u32 x.toNat) := by rw [List.getElem?_map, List.getElem?_eq_getElem hk, hxk]; rfl
        have r0 := own_cell O8 hel
        have r1 := own_frozen O8 k
        have hgr := own_ne O8 I8.c (by decide)
        obtain ⟨y, hy⟩ : ∃ y : UInt32, x + 1 = y := ⟨_, rfl⟩
        have hsum : ((x.toNat : Int) + 1) % 4294967296 = y.toNat := by
          rw [← hy, UInt32.toNat_add, show (1 : UInt32).toNat = 1 from rfl]
          omega
        have HXY : Hid (x ≠ y) := by
          intro e
          rw [← e] at hsum
          have := x.toNat_lt
          omega
        clear hy
        have KP : Hid (∀ W : World, Sl W W.heap.size (some ⟨r, 0, none⟩) xs.length ((xs.set k y).map wv) → Calls Try.prog 6 #[.agg #[.slice (some ⟨r, 0, none⟩) xs.length c3, .int .i64 d]] W fun e w' => (∃ s, e = .returned (.tuple #[.string s, .int .i64 0]) ∧ Hid (s.data.toList = putI (xs.set k y) d)) ∧ Below W.heap.size W w') := by
          intro W hS
          have q := image_Put (some ⟨r, 0, none⟩) (xs.set k y) c3 d W (by rw [List.length_set]; exact hS) (by rw [List.length_set]; exact HR1.out)
          rw [List.length_set] at q
          exact q
        have hset : (xs.map wv).set k (.int .u32 y.toNat) = (xs.set k y).map wv := (List.map_set).symm
        have HXK := Lib.hid hxk
        have HK := Lib.hid hk
        have HSET := Lib.hid hset
        have hkt : ((k : Nat) : Int).toNat = k := Int.toNat_natCast k
        clear hset hxk hel
        go_wp2_with fail
        go_region
        have O9 := own_set O8 HK.out (.int .u32 y.toNat)
        have I9 := I8.far (p := ⟨r, k, none⟩) hrB hgr (.int .u32 y.toNat)
        rw [HSET.out] at O9
        clear a0 a1 q0 q1 f0 f1 r0 r1 O8 I8
        generalize World.setCell _ ⟨r, k, none⟩ _ = W9 at O9 I9 ⊢
        obtain ⟨a0, a1, q0, q1, f0, f1⟩ := I9.all
        have I10 := (I9.set1 d).drew
        have O10 := own_drew (own_other (i := 1) (u := .int .i64 d) O9 I9.c (by decide))
        go_wp2_with fail
        refine (KP.out _ (own_sl O10)).mono ?_
        rintro e w11 ⟨⟨v, rfl, hv⟩, hb11⟩
        have I11 := I10.below hb11
        have hvs : ((v.size : Int) == s.size) = true := by
          have e1 := congrArg List.length hv.out
          have e2 := congrArg List.length hs.out
          rw [put_length, List.length_set] at e1
          rw [put_length] at e2
          have e3 : v.data.toList.length = v.size := rfl
          have e4 : s.data.toList.length = s.size := rfl
          rw [beq_iff_eq]
          omega
        have hvn : (v.toList == s.toList) = false := by
          rw [beq_eq_false_iff_ne, Lib.toList_data, Lib.toList_data, hv.out, hs.out]
          intro e
          have e5 := (put_inj (by rw [List.length_set]; exact HR1.out) HR1.out e).1
          have e6 := congrArg (fun l : List UInt32 => l[k]?) e5
          rw [List.getElem?_set_self HK.out, List.getElem?_eq_getElem HK.out, HXK.out] at e6
          exact HXY.out (Option.some.inj e6).symm
        clear a0 a1 q0 q1 f0 f1 I9 O9 I10 O10 hb11
        go_wp2_with fail
        go_returns
        exact ⟨rfl, I11.im.bel⟩
    · go_simp
      have hgl : w.heap.size + 2 ≤ X.heap.size + 1 := by omega
      have JB := JA.alloc (.cells #[.slice none 0 0, .int .i64 0] 24)
      have w7s := JB.sz
      refine hK.out _ _ ⟨JB.all.1, JB.all.2.1⟩ (fun hHeld => ?_)
      clear hK K
      try simp only [Act.put, List.getElem_toArray, List.getElem_cons_succ, List.getElem_cons_zero, List.setIfInBounds_toArray, List.set_cons_zero, List.set_cons_succ]
      refine wpAnyH_ready (rs := [6]) (by kernel_rfl) (by simp) ?_
      refine AllReadyH.cons rfl (fun K hK => ?_) AllReadyH.nil
      refine step_append_slk rfl _ _ 22 rfl (w.heap.size + 2) 31 (.int .u32 0) 4 Try.underlying22 info_u32 rfl _ rfl ((own_none X _ _ w6s).alloc _) A xs.length c (xs.map wv) rfl ((hx.below JB.bel).more JB.bel.size) (wv_oneCell xs) (by omega) (by omega) JB.sz ?_
      intro A3 c3 w7 hO7 hb7 hk7
      have JC := JB.below2 (Nat.le_refl _) hb7
      refine hK.out _ _ ⟨JC.all.1, JC.all.2.1⟩ (fun hHeld => ?_)
      clear hK K
      try simp only [Act.put, List.getElem_toArray, List.getElem_cons_succ, List.getElem_cons_zero, List.setIfInBounds_toArray, List.set_cons_zero, List.set_cons_succ]
      refine wpAnyH_take (i := 7) (v := ?_) rfl (by kernel_rfl) (by kernel_rfl) (by kernel_rfl) (fun _ _ _ h => h) (Or.inl ⟨by kernel_rfl, ?_⟩) (by assumption) ?_
      rotate_left
      · intro w hSw; (try dsimp only at hSw); go_simp; (try with_reducible rfl)
      try simp only [Act.put, List.getElem_toArray, List.getElem_cons_succ, List.getElem_cons_zero, List.setIfInBounds_toArray, List.set_cons_zero, List.set_cons_succ]
      have hz := show Blk w7 (X.heap.size + 1) 24 #[.slice none 0 0, .int .i64 0] from (hk7 _ (by simp <;> omega) (by simp <;> omega)).trans (by have h := Blk.new (X.alloc (.cells #[] 31)) 24 #[.slice none 0 0, .int .i64 0]; rw [show (X.alloc (.cells #[] 31)).heap.size = X.heap.size + 1 by simp] at h; exact h)
      have hzl := hz.lt
      have q0 := hz.cell 0
      have q1 := hz.cell 1
      have f0 := hz.frozen 0
      have f1 := hz.frozen 1
      refine wpAnyH_ready (rs := [9]) (by kernel_rfl) (by simp) ?_
      refine AllReadyH.cons rfl (fun K hK => ?_) AllReadyH.nil
      go_simp
      have hz1 := hz.set 0 (.slice A3 xs.length c3)
      have hz2 := hz1.set 1 (.int .i64 (32768 - d))
      have hO2 := own_other (i := 1) (u := .int .i64 (32768 - d)) (own_other (i := 0) (u := .slice A3 xs.length c3) hO7 hz (by decide)) hz1 (by decide)
      have hI3 : Im3 w (.slice A xs.length c) d (.slice A' ys.length c') d' (X.heap.size + 1) (.slice A3 xs.length c3) (32768 - d) _ := ⟨JC.below2 (B := w.heap.size + 2) (Nat.le_refl _) (((Below.refl _ _).setCell (p := ⟨(X.heap.size + 1), 0, none⟩) hgl _).setCell (p := ⟨(X.heap.size + 1), 1, none⟩) hgl _), hz2, hgl⟩
      refine hK.out _ _ ⟨hI3.im.all.1, hI3.im.all.2.1⟩ (fun hHeld => ?_)
      clear hK K
      try simp only [Act.put, List.getElem_toArray, List.getElem_cons_succ, List.getElem_cons_zero, List.setIfInBounds_toArray, List.set_cons_zero, List.set_cons_succ]
      refine wpAnyH_done (by kernel_rfl) ?_ _
      clear hz hz1 hz2 q0 q1 f0 f1
      generalize World.setCell _ _ _ = Wf at hI3 hO2 hHeld ⊢
      generalize X.heap.size + 1 = g at hI3 ⊢
      have hS3 := own_sl hO2
      obtain ⟨a0, a1, q0, q1, f0, f1⟩ := hI3.all
      clear hHeld
      go_wp2_with fail
      refine (image_Put A3 xs c3 (32768 - d) _ hS3 HR3.out).mono ?_
      rintro e w8 ⟨⟨u, rfl, hu⟩, hb8⟩
      have I8 := hI3.below hb8
      have O8 := own_below hO2 rfl hb8
      clear hI3 hO2 hS3 hb8 a0 a1 q0 q1 f0 f1
      obtain ⟨a0, a1, q0, q1, f0, f1⟩ := I8.all
      obtain ⟨z2, hz2⟩ : ∃ z2, (d == 16384) = z2 := ⟨_, rfl⟩
      have hus : (u.toList == s.toList) = z2 := by
        rw [← hz2, Bool.eq_iff_iff, beq_iff_eq, beq_iff_eq, Lib.toList_data, Lib.toList_data, hu.out, hs.out]
        exact ⟨fun e => by have := (put_inj HR3.out HR1.out e).2; omega, fun e => by rw [show 32768 - d = d by omega]⟩
      have hcase : at0 < 0 ∨ (0 ≤ at0 ∧ (xs.length : Int) ≤ at0) ∨ (0 ≤ at0 ∧ at0 < xs.length) := by omega
      rcases hcase with hc1 | ⟨hc0, hc1⟩ | ⟨hc0, hc1⟩
      · go_wp2_with fail
        go_returns
        exact ⟨rfl, I8.im.bel⟩
      · go_wp2_with fail
        go_returns
        exact ⟨rfl, I8.im.bel⟩
      · obtain ⟨k, rfl⟩ : ∃ k : Nat, at0 = k := ⟨at0.toNat, by omega⟩
        have hk : k < xs.length := by omega
        obtain ⟨x, hxk⟩ : ∃ x, xs[k] = x := ⟨_, rfl⟩
        obtain ⟨r, cap, hrv, hrB, hrl, _⟩ := own_form O8 (by omega)
        simp only [Value.slice.injEq] at hrv
        obtain ⟨hA3, -, hcc⟩ := hrv
        subst hA3
        subst hcc
        have hel : (xs.map wv)[k]? = some (.int .u32 x.toNat) := by rw [List.getElem?_map, List.getElem?_eq_getElem hk, hxk]; rfl
        have r0 := own_cell O8 hel
        have r1 := own_frozen O8 k
        have hgr := own_ne O8 I8.c (by decide)
        obtain ⟨y, hy⟩ : ∃ y : UInt32, x + 1 = y := ⟨_, rfl⟩
        have hsum : ((x.toNat : Int) + 1) % 4294967296 = y.toNat := by
          rw [← hy, UInt32.toNat_add, show (1 : UInt32).toNat = 1 from rfl]
          omega
        have HXY : Hid (x ≠ y) := by
          intro e
          rw [← e] at hsum
          have := x.toNat_lt
          omega
        clear hy
        have KP : Hid (∀ W : World, Sl W W.heap.size (some ⟨r, 0, none⟩) xs.length ((xs.set k y).map wv) → Calls Try.prog 6 #[.agg #[.slice (some ⟨r, 0, none⟩) xs.length c3, .int .i64 d]] W fun e w' => (∃ s, e = .returned (.tuple #[.string s, .int .i64 0]) ∧ Hid (s.data.toList = putI (xs.set k y) d)) ∧ Below W.heap.size W w') := by
          intro W hS
          have q := image_Put (some ⟨r, 0, none⟩) (xs.set k y) c3 d W (by rw [List.length_set]; exact hS) (by rw [List.length_set]; exact HR1.out)
          rw [List.length_set] at q
          exact q
        have hset : (xs.map wv).set k (.int .u32 y.toNat) = (xs.set k y).map wv := (List.map_set).symm
        have HXK := Lib.hid hxk
        have HK := Lib.hid hk
        have HSET := Lib.hid hset
        have hkt : ((k : Nat) : Int).toNat = k := Int.toNat_natCast k
        clear hset hxk hel
        go_wp2_with fail
        go_region
        have O9 := own_set O8 HK.out (.int .u32 y.toNat)
        have I9 := I8.far (p := ⟨r, k, none⟩) hrB hgr (.int .u32 y.toNat)
        rw [HSET.out] at O9
        clear a0 a1 q0 q1 f0 f1 r0 r1 O8 I8
        generalize World.setCell _ ⟨r, k, none⟩ _ = W9 at O9 I9 ⊢
        obtain ⟨a0, a1, q0, q1, f0, f1⟩ := I9.all
        have I10 := (I9.set1 d).drew
        have O10 := own_drew (own_other (i := 1) (u := .int .i64 d) O9 I9.c (by decide))
        go_wp2_with fail
        refine (KP.out _ (own_sl O10)).mono ?_
        rintro e w11 ⟨⟨v, rfl, hv⟩, hb11⟩
        have I11 := I10.below hb11
        have hvs : ((v.size : Int) == s.size) = true := by
          have e1 := congrArg List.length hv.out
          have e2 := congrArg List.length hs.out
          rw [put_length, List.length_set] at e1
          rw [put_length] at e2
          have e3 : v.data.toList.length = v.size := rfl
          have e4 : s.data.toList.length = s.size := rfl
          rw [beq_iff_eq]
          omega
        have hvn : (v.toList == s.toList) = false := by
          rw [beq_eq_false_iff_ne, Lib.toList_data, Lib.toList_data, hv.out, hs.out]
          intro e
          have e5 := (put_inj (by rw [List.length_set]; exact HR1.out) HR1.out e).1
          have e6 := congrArg (fun l : List UInt32 => l[k]?) e5
          rw [List.getElem?_set_self HK.out, List.getElem?_eq_getElem HK.out, HXK.out] at e6
          exact HXY.out (Option.some.inj e6).symm
        clear a0 a1 q0 q1 f0 f1 I9 O9 I10 O10 hb11
        go_wp2_with fail
        go_returns
        exact ⟨rfl, I11.im.bel⟩
  · go_simp
    have hgl := w6s
    have JA := J0.alloc (.cells #[.slice none 0 0, .int .i64 0] 24)
    have w7s := JA.sz
    refine hK.out _ _ ⟨JA.all.1, JA.all.2.1⟩ (fun hHeld => ?_)
    clear hK K
    try simp only [Act.put, List.getElem_toArray, List.getElem_cons_succ, List.getElem_cons_zero, List.setIfInBounds_toArray, List.set_cons_zero, List.set_cons_succ]
    refine wpAnyH_ready (rs := [3]) (by kernel_rfl) (by simp) ?_
    refine AllReadyH.cons rfl (fun K hK => ?_) AllReadyH.nil
    go_simp
    have JB := JA.alloc (.cells #[] 31)
    refine hK.out _ _ ⟨JB.all.1, JB.all.2.1⟩ (fun hHeld => ?_)
    clear hK K
    try simp only [Act.put, List.getElem_toArray, List.getElem_cons_succ, List.getElem_cons_zero, List.setIfInBounds_toArray, List.set_cons_zero, List.set_cons_succ]
    refine wpAnyH_ready (rs := [6]) (by kernel_rfl) (by simp) ?_
    refine AllReadyH.cons rfl (fun K hK => ?_) AllReadyH.nil
    refine step_append_slk rfl _ _ 22 rfl (w.heap.size + 2) 31 (.int .u32 0) 4 Try.underlying22 info_u32 rfl _ rfl (by have h := own_none (X.alloc (.cells #[.slice none 0 0, .int .i64 0] 24)) (w.heap.size + 2) 31 w7s; simpa using h) A xs.length c (xs.map wv) rfl ((hx.below JB.bel).more JB.bel.size) (wv_oneCell xs) (by omega) (by omega) JB.sz ?_
    intro A3 c3 w7 hO7 hb7 hk7
    have JC := JB.below2 (Nat.le_refl _) hb7
    refine hK.out _ _ ⟨JC.all.1, JC.all.2.1⟩ (fun hHeld => ?_)
    clear hK K
    try simp only [Act.put, List.getElem_toArray, List.getElem_cons_succ, List.getElem_cons_zero, List.setIfInBounds_toArray, List.set_cons_zero, List.set_cons_succ]
    refine wpAnyH_take (i := 7) (v := ?_) rfl (by kernel_rfl) (by kernel_rfl) (by kernel_rfl) (fun _ _ _ h => h) (Or.inl ⟨by kernel_rfl, ?_⟩) (by assumption) ?_
    rotate_left
    · intro w hSw; (try dsimp only at hSw); go_simp; (try with_reducible rfl)
    try simp only [Act.put, List.getElem_toArray, List.getElem_cons_succ, List.getElem_cons_zero, List.setIfInBounds_toArray, List.set_cons_zero, List.set_cons_succ]
    have hz := show Blk w7 X.heap.size 24 #[.slice none 0 0, .int .i64 0] from (hk7 _ (by simp <;> omega) (by simp <;> omega)).trans ((Blk.new X 24 #[.slice none 0 0, .int .i64 0]).alloc _)
    have hzl := hz.lt
    have q0 := hz.cell 0
    have q1 := hz.cell 1
    have f0 := hz.frozen 0
    have f1 := hz.frozen 1
    refine wpAnyH_ready (rs := [9]) (by kernel_rfl) (by simp) ?_
    refine AllReadyH.cons rfl (fun K hK => ?_) AllReadyH.nil
    go_simp
    have hz1 := hz.set 0 (.slice A3 xs.length c3)
    have hz2 := hz1.set 1 (.int .i64 (32768 - d))
    have hO2 := own_other (i := 1) (u := .int .i64 (32768 - d)) (own_other (i := 0) (u := .slice A3 xs.length c3) hO7 hz (by decide)) hz1 (by decide)
    have hI3 : Im3 w (.slice A xs.length c) d (.slice A' ys.length c') d' X.heap.size (.slice A3 xs.length c3) (32768 - d) _ := ⟨JC.below2 (B := w.heap.size + 2) (Nat.le_refl _) (((Below.refl _ _).setCell (p := ⟨X.heap.size, 0, none⟩) hgl _).setCell (p := ⟨X.heap.size, 1, none⟩) hgl _), hz2, hgl⟩
    refine hK.out _ _ ⟨hI3.im.all.1, hI3.im.all.2.1⟩ (fun hHeld => ?_)
    clear hK K
    try simp only [Act.put, List.getElem_toArray, List.getElem_cons_succ, List.getElem_cons_zero, List.setIfInBounds_toArray, List.set_cons_zero, List.set_cons_succ]
    refine wpAnyH_done (by kernel_rfl) ?_ _
    clear hz hz1 hz2 q0 q1 f0 f1
    generalize World.setCell _ _ _ = Wf at hI3 hO2 hHeld ⊢
    generalize X.heap.size = g at hI3 ⊢
    have hS3 := own_sl hO2
    obtain ⟨a0, a1, q0, q1, f0, f1⟩ := hI3.all
    clear hHeld
    go_wp2_with fail
    refine (image_Put A3 xs c3 (32768 - d) _ hS3 HR3.out).mono ?_
    rintro e w8 ⟨⟨u, rfl, hu⟩, hb8⟩
    have I8 := hI3.below hb8
    have O8 := own_below hO2 rfl hb8
    clear hI3 hO2 hS3 hb8 a0 a1 q0 q1 f0 f1
    obtain ⟨a0, a1, q0, q1, f0, f1⟩ := I8.all
    obtain ⟨z2, hz2⟩ : ∃ z2, (d == 16384) = z2 := ⟨_, rfl⟩
    have hus : (u.toList == s.toList) = z2 := by
      rw [← hz2, Bool.eq_iff_iff, beq_iff_eq, beq_iff_eq, Lib.toList_data, Lib.toList_data, hu.out, hs.out]
      exact ⟨fun e => by have := (put_inj HR3.out HR1.out e).2; omega, fun e => by rw [show 32768 - d = d by omega]⟩
    have hcase : at0 < 0 ∨ (0 ≤ at0 ∧ (xs.length : Int) ≤ at0) ∨ (0 ≤ at0 ∧ at0 < xs.length) := by omega
    rcases hcase with hc1 | ⟨hc0, hc1⟩ | ⟨hc0, hc1⟩
    · go_wp2_with fail
      go_returns
      exact ⟨rfl, I8.im.bel⟩
    · go_wp2_with fail
      go_returns
      exact ⟨rfl, I8.im.bel⟩
    · obtain ⟨k, rfl⟩ : ∃ k : Nat, at0 = k := ⟨at0.toNat, by omega⟩
      have hk : k < xs.length := by omega
      obtain ⟨x, hxk⟩ : ∃ x, xs[k] = x := ⟨_, rfl⟩
      obtain ⟨r, cap, hrv, hrB, hrl, _⟩ := own_form O8 (by omega)
      simp only [Value.slice.injEq] at hrv
      obtain ⟨hA3, -, hcc⟩ := hrv
      subst hA3
      subst hcc
      have hel : (xs.map wv)[k]? = some (.int .u32 x.toNat) := by rw [List.getElem?_map, List.getElem?_eq_getElem hk, hxk]; rfl
      have r0 := own_cell O8 hel
      have r1 := own_frozen O8 k
      have hgr := own_ne O8 I8.c (by decide)
      obtain ⟨y, hy⟩ : ∃ y : UInt32, x + 1 = y := ⟨_, rfl⟩
      have hsum : ((x.toNat : Int) + 1) % 4294967296 = y.toNat := by
        rw [← hy, UInt32.toNat_add, show (1 : UInt32).toNat = 1 from rfl]
        omega
      have HXY : Hid (x ≠ y) := by
        intro e
        rw [← e] at hsum
        have := x.toNat_lt
        omega
      clear hy
      have KP : Hid (∀ W : World, Sl W W.heap.size (some ⟨r, 0, none⟩) xs.length ((xs.set k y).map wv) → Calls Try.prog 6 #[.agg #[.slice (some ⟨r, 0, none⟩) xs.length c3, .int .i64 d]] W fun e w' => (∃ s, e = .returned (.tuple #[.string s, .int .i64 0]) ∧ Hid (s.data.toList = putI (xs.set k y) d)) ∧ Below W.heap.size W w') := by
        intro W hS
        have q := image_Put (some ⟨r, 0, none⟩) (xs.set k y) c3 d W (by rw [List.length_set]; exact hS) (by rw [List.length_set]; exact HR1.out)
        rw [List.length_set] at q
        exact q
      have hset : (xs.map wv).set k (.int .u32 y.toNat) = (xs.set k y).map wv := (List.map_set).symm
      have HXK := Lib.hid hxk
      have HK := Lib.hid hk
      have HSET := Lib.hid hset
      have hkt : ((k : Nat) : Int).toNat = k := Int.toNat_natCast k
      clear hset hxk hel
      go_wp2_with fail
      go_region
      have O9 := own_set O8 HK.out (.int .u32 y.toNat)
      have I9 := I8.far (p := ⟨r, k, none⟩) hrB hgr (.int .u32 y.toNat)
      rw [HSET.out] at O9
      clear a0 a1 q0 q1 f0 f1 r0 r1 O8 I8
      generalize World.setCell _ ⟨r, k, none⟩ _ = W9 at O9 I9 ⊢
      obtain ⟨a0, a1, q0, q1, f0, f1⟩ := I9.all
      have I10 := (I9.set1 d).drew
      have O10 := own_drew (own_other (i := 1) (u := .int .i64 d) O9 I9.c (by decide))
      go_wp2_with fail
      refine (KP.out _ (own_sl O10)).mono ?_
      rintro e w11 ⟨⟨v, rfl, hv⟩, hb11⟩
      have I11 := I10.below hb11
      have hvs : ((v.size : Int) == s.size) = true := by
        have e1 := congrArg List.length hv.out
        have e2 := congrArg List.length hs.out
        rw [put_length, List.length_set] at e1
        rw [put_length] at e2
        have e3 : v.data.toList.length = v.size := rfl
        have e4 : s.data.toList.length = s.size := rfl
        rw [beq_iff_eq]
        omega
      have hvn : (v.toList == s.toList) = false := by
        rw [beq_eq_false_iff_ne, Lib.toList_data, Lib.toList_data, hv.out, hs.out]
        intro e
        have e5 := (put_inj (by rw [List.length_set]; exact HR1.out) HR1.out e).1
        have e6 := congrArg (fun l : List UInt32 => l[k]?) e5
        rw [List.getElem?_set_self HK.out, List.getElem?_eq_getElem HK.out, HXK.out] at e6
        exact HXY.out (Option.some.inj e6).symm
      clear a0 a1 q0 q1 f0 f1 I9 O9 I10 O10 hb11
      go_wp2_with fail
      go_returns
      exact ⟨rfl, I11.im.bel⟩

theorem apart_walk (xs ys : List UInt32) (A A' : Option Addr) (c c' : Nat) (d d' at0 : Int) (w : World) (hx : Sl w w.heap.size A xs.length (xs.map wv)) (hy : Sl w w.heap.size A' ys.length (ys.map wv)) :
    Calls Try.prog 3 #[.agg #[.slice A xs.length c, .int .i64 d], .agg #[.slice A' ys.length c', .int .i64 d'], .int .i64 at0] w fun e w' => e = .returned (.bool true) ∧ Below w.heap.size w w' := by
  by_cases h : xs.length ≤ 500 ∧ ys.length ≤ 500 ∧ rightB xs.length d = true ∧ rightB ys.length d' = true
  · exact apart_yes xs ys A A' c c' d d' at0 w hx hy h.1 h.2.1 h.2.2.1 h.2.2.2
  · exact apart_no xs ys A A' c c' d d' at0 w h
end Go.Proofs.Ytekpfpikbgiblaa
