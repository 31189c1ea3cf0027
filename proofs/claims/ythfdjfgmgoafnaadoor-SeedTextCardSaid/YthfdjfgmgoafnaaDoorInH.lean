/- Layer 7, the document's 'Right', 'Encode', 'Decode', walked. -/
import Derived.Test.YthfdjfgmgoafnaaDoorInG
namespace Go.Proofs.YthfdjfgmgoafnaaDoor
open Go.RowKit

theorem part_has (A B : Bool) (C : Int) (hC : C = 0 ∨ C = 1 ∨ C = 2) : hasB (partL A B C) 97 = A ∧ hasB (partL A B C) 98 = B ∧ hasB (partL A B C) 99 = decide (C = 1) ∧ hasB (partL A B C) 114 = decide (C = 2) ∧ partL A B C ≠ [63] ∧ (partL A B C).length ≤ 3 := by
  rcases hC with rfl | rfl | rfl <;> cases A <;> cases B <;> decide

set_option maxHeartbeats 2000000 in
theorem ref07_Right (op a b c : Int) (w : World) :
    Calls Tryd.prog 55 #[.agg #[.int .i64 op, .int .i64 a, .int .i64 b, .int .i64 c]] w fun e w' => e = .returned (.bool (rightI op a b c)) ∧ Below w.heap.size w w' := by
  by_cases h : isOp op
  · have hC := shC_cases op
    obtain ⟨p1, p2, p3, p4, p5, p6⟩ := part_has (shA op) (shB op) (shC op) hC
    have hp : partsI op = partL (shA op) (shB op) (shC op) := by unfold partsI; rw [if_pos h]
    obtain ⟨P, hP⟩ : ∃ P : ByteArray, (⟨(partsI op).toArray⟩ : ByteArray) = P := ⟨_, rfl⟩
    have hPl : P.data.toList = partL (shA op) (shB op) (shC op) := by rw [← hP, ← hp]
    have hsz : P.size ≤ 1000000000000 := by have h2 := congrArg List.length hPl; have h3 : P.data.toList.length = P.size := rfl; omega
    have hK := ref_Parts op
    rw [hP] at hK
    have hH : ∀ (ch : UInt8) (r : Bool), hasB (partL (shA op) (shB op) (shC op)) ch = r → ∀ W : World, Calls Tryd.prog 62 #[.string P, .int .u8 ch.toNat] W fun e w' => e = .returned (.bool r) ∧ w' = W := fun ch r hr W => (ref_has P ch W hsz).mono fun e w' hh => ⟨by rw [hh.1, hPl, hr], hh.2.symm⟩
    have hne : (P.toList == [63]) = false := by rw [beq_eq_false_iff_ne, Lib.toList_data, hPl]; exact p5
    have hres := refRight_any op a b c P (shA op) (shB op) (decide (shC op = 1)) (decide (shC op = 2)) w (by intro h1; have h2 := of_decide_eq_true h1; exact decide_eq_false (by omega)) hK (hH 97 _ p1) (hH 98 _ p2) (hH 99 _ p3) (hH 114 _ p4) hne
    refine hres.mono fun e w' hh => ⟨?_, hh.2⟩
    rw [hh.1]
    unfold rightI
    rw [decide_eq_true h, Bool.true_and]
    rcases hC with h1 | h1 | h1 <;> rw [h1] <;> rfl
  · have hp : partsI op = [63] := by unfold partsI; rw [if_neg h]
    have hK := ref_Parts op
    rw [hp] at hK
    have KH := Lib.hid hK
    have K2 : Hid (∀ W : World, Calls Tryd.prog 62 #[.string ⟨#[63]⟩, .int .u8 114] W fun e w' => e = .returned (.bool false) ∧ W = w') := fun W => ref_has ⟨#[63]⟩ 114 W (by decide)
    have HR : Hid (rightI op a b c = false) := by unfold Hid rightI; rw [decide_eq_false h, Bool.false_and]
    have hbox := (Below.refl _ w).alloc (Nat.le_refl _) (.cells #[.int .i64 op, .int .i64 a, .int .i64 b, .int .i64 c] 49)
    clear hK hp h
    go_enter Tryd.func55, Tryd.ntmps55
    go_wp2_with fail
    refine (KH.out _).mono ?_
    rintro e w1 ⟨rfl, rfl⟩
    go_wp2_with fail
    refine (K2.out _).mono ?_
    rintro e w2 ⟨rfl, rfl⟩
    go_wp2_with fail
    go_quiet (fail)
    go_wp2_with fail
    go_returns
    exact ⟨ret_bool (by rw [HR.out]), ⟨hbox.os, hbox.tape, hbox.output, hbox.size, hbox.block⟩⟩

set_option maxHeartbeats 1000000 in
theorem ref_Encode_bad (op a b c : Int) (w : World) (h : rightI op a b c = false) :
    Calls Tryd.prog 40 #[.agg #[.int .i64 op, .int .i64 a, .int .i64 b, .int .i64 c]] w fun e w' => e = .returned (.tuple #[.int .u32 0, .int .i64 1]) ∧ Below w.heap.size w w' := by
  have HR := Lib.hid h
  have hI := Ib.new w op a b c
  clear h
  go_enter Tryd.func40, Tryd.ntmps40
  go_wp2_with fail
  refine (ref07_Right op a b c _).mono ?_
  rw [HR.out]
  rintro e w1 ⟨rfl, hb⟩
  go_wp2_with fail
  go_returns
  exact ⟨rfl, (hI.below hb).bel⟩
set_option maxHeartbeats 1000000 in
theorem ref_Encode (op a b c : Int) (w : World) (h : rightI op a b c = true) :
    Calls Tryd.prog 40 #[.agg #[.int .i64 op, .int .i64 a, .int .i64 b, .int .i64 c]] w fun e w' => e = .returned (.tuple #[.int .u32 (encI op a b c), .int .i64 0]) ∧ Below w.heap.size w w' := by
  obtain ⟨⟨o1, o2⟩, ⟨a1, a2⟩, ⟨b1, b2⟩, ⟨c1, c2⟩⟩ := right_bounds h
  have HR := Lib.hid h
  have hI := Ib.new w op a b c
  clear h
  go_enter Tryd.func40, Tryd.ntmps40
  go_wp2_with fail
  refine (ref07_Right op a b c _).mono ?_
  rw [HR.out]
  rintro e w1 ⟨rfl, hb⟩
  have h1 := hI.below hb
  obtain ⟨i0, i1, i2, i3⟩ := h1.all
  clear hb hI
  go_wp2_with fail
  go_returns
  exact ⟨rfl, h1.bel⟩

set_option maxHeartbeats 2000000 in
theorem ref_Decode_ok (x : UInt32) (w : World) (h : decB x = true) :
    Calls Tryd.prog 82 #[.int .u32 x.toNat] w fun e w' => e = .returned (.tuple #[.agg #[.int .i64 (opD x), .int .i64 (aD x), .int .i64 (bD x), .int .i64 (cD x)], .int .i64 0]) ∧ Below w.heap.size w w' := by
  have hx := x.toNat_lt
  have K : ∀ W : World, Calls Tryd.prog 55 #[.agg #[.int .i64 ((x.toNat : Int) / 16777216), .int .i64 ((x.toNat : Int) / 1048576 % 16), .int .i64 ((x.toNat : Int) / 65536 % 16), .int .i64 ((x.toNat : Int) % 65536)]] W fun e w' => e = .returned (.bool true) ∧ Below W.heap.size W w' := fun W => by
    have h2 := ref07_Right (opD x) (aD x) (bD x) (cD x) W
    unfold decB at h
    rw [h] at h2
    exact h2
  have KH := Lib.hid K
  clear K h
  unfold opD aD bD cD
  go_enter Tryd.func82, Tryd.ntmps82
  go_wp2_with fail
  refine (KH.out _).mono ?_
  rintro e w1 ⟨rfl, hb⟩
  have hZ := ((Blk.new w 49 #[.int .i64 0, .int .i64 0, .int .i64 0, .int .i64 0]).alloc (.cells #[.int .i64 ((x.toNat : Int) / 16777216), .int .i64 ((x.toNat : Int) / 1048576 % 16), .int .i64 ((x.toNat : Int) / 65536 % 16), .int .i64 ((x.toNat : Int) % 65536)] 49)).below hb (by simp; omega)
  have hX := Blk.new (w.alloc (.cells #[.int .i64 0, .int .i64 0, .int .i64 0, .int .i64 0] 49)) 49 #[.int .i64 ((x.toNat : Int) / 16777216), .int .i64 ((x.toNat : Int) / 1048576 % 16), .int .i64 ((x.toNat : Int) / 65536 % 16), .int .i64 ((x.toNat : Int) % 65536)]
  replace hX := hX.below hb hX.lt
  have bel := below_new (below_new hb)
  have hsz : (w.alloc (.cells #[.int .i64 0, .int .i64 0, .int .i64 0, .int .i64 0] 49)).heap.size = w.heap.size + 1 := by simp
  rw [hsz] at hX
  clear hb hsz
  have x0 := hX.cell 0
  have x1 := hX.cell 1
  have x2 := hX.cell 2
  have x3 := hX.cell 3
  have z0 := hZ.cell 0
  have z1 := hZ.cell 1
  have z2 := hZ.cell 2
  have z3 := hZ.cell 3
  have y0 := hZ.frozen 0
  have y1 := hZ.frozen 1
  have y2 := hZ.frozen 2
  have y3 := hZ.frozen 3
  go_wp2_with fail
  obtain ⟨W4, hW4, hR4, hb4⟩ := hZ.out4 bel (Nat.le_refl _) (.int .i64 ((x.toNat : Int) / 16777216)) (.int .i64 ((x.toNat : Int) / 1048576 % 16)) (.int .i64 ((x.toNat : Int) / 65536 % 16)) (.int .i64 ((x.toNat : Int) % 65536))
  rw [← hW4]
  clear x0 x1 x2 x3 z0 z1 z2 z3 y0 y1 y2 y3 hW4
  have q0 := hR4.cell 0
  have q1 := hR4.cell 1
  have q2 := hR4.cell 2
  have q3 := hR4.cell 3
  refine bodyPost_ret (by simp [results, Tryd.results82, go_sem, q0, q1, q2, q3]; try rfl) rfl ?_
  exact ⟨rfl, hb4⟩

set_option maxHeartbeats 2000000 in
theorem ref_Decode_bad (x : UInt32) (w : World) (h : decB x = false) :
    Calls Tryd.prog 82 #[.int .u32 x.toNat] w fun e w' => e = .returned (.tuple #[.agg #[.int .i64 0, .int .i64 0, .int .i64 0, .int .i64 0], .int .i64 7]) ∧ Below w.heap.size w w' := by
  have hx := x.toNat_lt
  have K : ∀ W : World, Calls Tryd.prog 55 #[.agg #[.int .i64 ((x.toNat : Int) / 16777216), .int .i64 ((x.toNat : Int) / 1048576 % 16), .int .i64 ((x.toNat : Int) / 65536 % 16), .int .i64 ((x.toNat : Int) % 65536)]] W fun e w' => e = .returned (.bool false) ∧ Below W.heap.size W w' := fun W => by
    have h2 := ref07_Right (opD x) (aD x) (bD x) (cD x) W
    unfold decB at h
    rw [h] at h2
    exact h2
  have KH := Lib.hid K
  clear K h
  go_enter Tryd.func82, Tryd.ntmps82
  go_wp2_with fail
  refine (KH.out _).mono ?_
  rintro e w1 ⟨rfl, hb⟩
  have hZ := ((Blk.new w 49 #[.int .i64 0, .int .i64 0, .int .i64 0, .int .i64 0]).alloc (.cells #[.int .i64 ((x.toNat : Int) / 16777216), .int .i64 ((x.toNat : Int) / 1048576 % 16), .int .i64 ((x.toNat : Int) / 65536 % 16), .int .i64 ((x.toNat : Int) % 65536)] 49)).below hb (by simp; omega)
  have bel := below_new (below_new hb)
  clear hb
  have z0 := hZ.cell 0
  have z1 := hZ.cell 1
  have z2 := hZ.cell 2
  have z3 := hZ.cell 3
  have y0 := hZ.frozen 0
  have y1 := hZ.frozen 1
  have y2 := hZ.frozen 2
  have y3 := hZ.frozen 3
  go_wp2_with fail
  obtain ⟨W4, hW4, hR4, hb4⟩ := hZ.out4 bel (Nat.le_refl _) (.int .i64 0) (.int .i64 0) (.int .i64 0) (.int .i64 0)
  rw [← hW4]
  clear z0 z1 z2 z3 y0 y1 y2 y3 hW4
  have q0 := hR4.cell 0
  have q1 := hR4.cell 1
  have q2 := hR4.cell 2
  have q3 := hR4.cell 3
  refine bodyPost_ret (by simp [results, Tryd.results82, go_sem, q0, q1, q2, q3]; try rfl) rfl ?_
  exact ⟨rfl, hb4⟩
end Go.Proofs.YthfdjfgmgoafnaaDoor
