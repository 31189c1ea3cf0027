/- Layer 8's examples, walked. -/
import Derived.Test.YtekpfpikbgiblaaImgP
import Derived.Test.YtekpfpikbgiblaaImgT
namespace Go.Proofs.Ytekpfpikbgiblaa
open Go.RowKit

theorem image_Read_ok (s : ByteArray) (code : List UInt32) (d : Nat) (w : World) (h : readI s.data.toList = some (code, d)) :
    Calls Try.prog 8 #[.string s] w fun e W' => (∃ v, e = .returned (.tuple #[.agg #[v, .int .i64 d], .int .i64 0]) ∧ W'.ownsRow w.heap.size 31 1 v code.length (code.map wv)) ∧ Below w.heap.size w W' :=
  (callsIn_wide (n := 8)).1 (imgRead_ok s code d w h)
theorem image_Read_bad (s : ByteArray) (w : World) (hm : s.size ≤ 1000000000000) (h : readI s.data.toList = none) :
    Calls Try.prog 8 #[.string s] w fun e W' => e = .returned (.tuple #[.agg #[.slice none 0 0, .int .i64 0], .int .i64 7]) ∧ Below w.heap.size w W' :=
  (callsIn_wide (n := 8)).1 (imgRead_bad s w hm h)

theorem sl_new (w : World) (E : TypeId) (x : UInt32) : Sl (w.alloc (.cells #[.int .u32 x.toNat] E)) (w.alloc (.cells #[.int .u32 x.toNat] E)).heap.size (some ⟨w.heap.size, 0, none⟩) 1 ([x].map wv) :=
  ⟨rfl, fun _ => ⟨w.heap.size, 0, rfl, by simp, fun i u hu => by
    match i, hu with
    | 0, hu => rw [← Option.some.inj hu]; exact World.cell?_alloc_mark _ _ _ _ _⟩⟩

set_option maxHeartbeats 1000000 in
theorem img_awake (w : World) : Calls Try.prog 4 #[] w fun e w' => e = .returned (.bool true) ∧ Below w.heap.size w w' := by
  go_enter Try.func4, Try.ntmps4
  go_wp2_with fail
  have hSl0 := (sl_new w 31 5).below ((Below.refl _ _).alloc (Nat.le_refl _) (.cells #[.slice (some ⟨w.heap.size, 0, none⟩) 1 1, .int .i64 2] 24))
  obtain ⟨W0, hW0⟩ : ∃ W0, (w.alloc (.cells #[.int .u32 5] 31)).alloc (.cells #[.slice (some ⟨w.heap.size, 0, none⟩) 1 1, .int .i64 2] 24) = W0 := ⟨_, rfl⟩
  have hM0 : Blk W0 (w.heap.size + 1) 24 #[.slice (some ⟨w.heap.size, 0, none⟩) 1 1, .int .i64 2] := by
    rw [← hW0]
    have h := Blk.new (w.alloc (.cells #[.int .u32 5] 31)) 24 #[.slice (some ⟨w.heap.size, 0, none⟩) 1 1, .int .i64 2]
    simpa using h
  have hB0 : Below w.heap.size w W0 := by rw [← hW0]; exact ((Below.refl _ w).alloc (Nat.le_refl _) _).alloc (by simp) _
  have hs0 : W0.heap.size = w.heap.size + 2 := by rw [← hW0]; simp
  replace hSl0 : Sl W0 W0.heap.size (some ⟨w.heap.size, 0, none⟩) [(5 : UInt32)].length ([(5 : UInt32)].map wv) := by rw [← hW0]; exact hSl0.more (by simp)
  simp only [hW0]
  clear hW0
  refine (image_Put _ [5] _ 2 _ hSl0 rfl).mono ?_
  rintro e w1 ⟨⟨s, rfl, hs⟩, hb1⟩
  have hs' : s.data.toList = [83, 69, 69, 68, 1, 0, 0, 0, 2, 0, 0, 0, 5, 0, 0, 0] := hs.out.trans (by decide +kernel)
  obtain rfl := ba_eq hs'
  clear hs hs'
  have hM1 := hM0.below hb1 hM0.lt
  have hB1 := hB0.trans (hb1.mono hB0.size)
  have hSl1 := (hSl0.below hb1).more hb1.size
  clear hM0 hB0 hSl0 hb1
  go_wp2_with fail
  refine (image_Read_ok _ [5] 2 _ (by decide +kernel)).mono ?_
  rintro e w2 ⟨⟨v2, rfl, hown2⟩, hb2⟩
  have hM2 := hM1.below hb2 hM1.lt
  have hB2 := hB1.trans (hb2.mono hB1.size)
  have hSl2 := (hSl1.below hb2).more hb2.size
  obtain ⟨A2, c2, rfl, _, _, hSn2⟩ := Sl.of_own hown2
  have hm0 := hM2.cell 0
  have hm1 := hM2.cell 1
  clear hM1 hB1 hSl1 hb2 hown2
  go_wp2_with fail
  refine (image_Read_bad _ _ (by decide +kernel) (by decide +kernel)).mono ?_
  rintro e w3 ⟨rfl, hb3⟩
  have hN3 := (Blk.new w2 24 #[.slice A2 1 c2, .int .i64 2]).below hb3 (by simp)
  have hb3' := below_new hb3
  have hM3 := hM2.below hb3' hM2.lt
  have hB3 := hB2.trans (hb3'.mono hB2.size)
  have hSl3 := (hSl2.below hb3').more hb3'.size
  have hSn3 := (hSn2.below hb3').more hb3'.size
  clear hM2 hB2 hSl2 hb3 hb3' hSn2 hm0 hm1
  go_wp2_with fail
  refine (image_Put_bad _ _ _ _ _ rfl).mono ?_
  rintro e w4 ⟨rfl, hb4⟩
  replace hb4 := below_new hb4
  have hN4 := hN3.below hb4 hN3.lt
  have hM4 := hM3.below hb4 hM3.lt
  have hB4 := hB3.trans (hb4.mono hB3.size)
  have hSl4 := (hSl3.below hb4).more hb4.size
  have hSn4 := (hSn3.below hb4).more hb4.size
  have hm0 := hM4.cell 0
  have hm1 := hM4.cell 1
  have hn0 := hN4.cell 0
  have hn1 := hN4.cell 1
  clear hN3 hM3 hB3 hSl3 hb4 hSn3 hM4 hN4
  go_wp2_with fail
  refine (refI_Same [5] [5] _ _ _ _ _ _ _ hSl4 hSn4 (by decide)).mono ?_
  rintro e w5 ⟨rfl, hb5⟩
  have hB5 := hB4.trans (hb5.mono hB4.size)
  clear hSl4 hSn4 hB4 hb5 hm0 hm1 hn0 hn1
  go_wp2_with fail
  go_returns
  exact ⟨ret_bool (by rfl), hB5⟩

/-- One image in the box that a call makes first. -/
structure Im1 (w : World) (v : Value) (d : Int) (W : World) : Prop where
  a : Blk W w.heap.size 24 #[v, .int .i64 d]
  bel : Below w.heap.size w W
theorem Im1.new (w : World) (v : Value) (d : Int) : Im1 w v d (w.alloc (.cells #[v, .int .i64 d] 24)) := ⟨Blk.new w _ _, (Below.refl _ w).alloc (Nat.le_refl _) _⟩
theorem Im1.below {w : World} {v : Value} {d : Int} {W W' : World} (h : Im1 w v d W) (hb : Below W.heap.size W W') : Im1 w v d W' := ⟨h.a.below hb h.a.lt, h.bel.trans (hb.mono h.bel.size)⟩
/-- Two images in the boxes that a call makes first. -/
structure Im2 (w : World) (v1 : Value) (d1 : Int) (v2 : Value) (d2 : Int) (W : World) : Prop where
  a : Blk W w.heap.size 24 #[v1, .int .i64 d1]
  b : Blk W (w.heap.size + 1) 24 #[v2, .int .i64 d2]
  bel : Below w.heap.size w W
theorem Im2.new (w : World) (v1 : Value) (d1 : Int) (v2 : Value) (d2 : Int) : Im2 w v1 d1 v2 d2 ((w.alloc (.cells #[v1, .int .i64 d1] 24)).alloc (.cells #[v2, .int .i64 d2] 24)) :=
  ⟨(Blk.new w _ _).alloc _, by have h := Blk.new (w.alloc (.cells #[v1, .int .i64 d1] 24)) 24 #[v2, .int .i64 d2]; simpa using h, ((Below.refl _ w).alloc (Nat.le_refl _) _).alloc (by simp) _⟩
theorem Im2.below {w : World} {v1 v2 : Value} {d1 d2 : Int} {W W' : World} (h : Im2 w v1 d1 v2 d2 W) (hb : Below W.heap.size W W') : Im2 w v1 d1 v2 d2 W' := ⟨h.a.below hb h.a.lt, h.b.below hb h.b.lt, h.bel.trans (hb.mono h.bel.size)⟩
theorem Im2.drew {w : World} {v1 v2 : Value} {d1 d2 : Int} {W : World} (h : Im2 w v1 d1 v2 d2 W) : Im2 w v1 d1 v2 d2 W.drew := h.below (Below.refl _ W).drew
theorem Im1.drew {w : World} {v1 : Value} {d1 : Int} {W : World} (h : Im1 w v1 d1 W) : Im1 w v1 d1 W.drew := h.below (Below.refl _ W).drew
theorem Im2.alloc {w : World} {v1 v2 : Value} {d1 d2 : Int} {W : World} (h : Im2 w v1 d1 v2 d2 W) (o : Obj) : Im2 w v1 d1 v2 d2 (W.alloc o) := h.below ((Below.refl _ W).alloc (Nat.le_refl _) o)
theorem Im1.alloc {w : World} {v1 : Value} {d1 : Int} {W : World} (h : Im1 w v1 d1 W) (o : Obj) : Im1 w v1 d1 (W.alloc o) := h.below ((Below.refl _ W).alloc (Nat.le_refl _) o)
theorem Im2.all {w : World} {v1 v2 : Value} {d1 d2 : Int} {W : World} (h : Im2 w v1 d1 v2 d2 W) : W.cell? ⟨w.heap.size, 0, none⟩ = some v1 ∧ W.cell? ⟨w.heap.size, 1, none⟩ = some (.int .i64 d1) ∧ W.cell? ⟨w.heap.size + 1, 0, none⟩ = some v2 ∧ W.cell? ⟨w.heap.size + 1, 1, none⟩ = some (.int .i64 d2) ∧ Im2 w v1 d1 v2 d2 W :=
  ⟨h.a.cell 0, h.a.cell 1, h.b.cell 0, h.b.cell 1, h⟩
theorem Im1.all {w : World} {v1 : Value} {d1 : Int} {W : World} (h : Im1 w v1 d1 W) : W.cell? ⟨w.heap.size, 0, none⟩ = some v1 ∧ W.cell? ⟨w.heap.size, 1, none⟩ = some (.int .i64 d1) ∧ Im1 w v1 d1 W :=
  ⟨h.a.cell 0, h.a.cell 1, h⟩
end Go.Proofs.Ytekpfpikbgiblaa
