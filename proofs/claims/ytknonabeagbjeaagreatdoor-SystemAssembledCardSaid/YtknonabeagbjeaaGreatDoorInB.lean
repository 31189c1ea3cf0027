/- Layer 7: what an instruction is; walked. -/
import Derived.Lib.Strings
import Derived.Test.YtknonabeagbjeaaGreatDoorInA
import Derived.Test.YtknonabeagbjeaaGreatDoorPb
namespace Go.Proofs.YtknonabeagbjeaaGreatDoor
open Go.RowKit

theorem shape_name (N : ByteArray) (A B : Bool) (C : Int) (W : World) : (Instr.field 86 (.agg #[.string N, .bool A, .bool B, .int .i64 C]) 0).run Tryz.prog W = .ok (.string N) W := by kernel_rfl
theorem inst_known (op : Int) (w : World) :
    Calls Tryz.prog 39 #[.int .i64 op] w fun e w' => e = .returned (.bool (decide (isOp op))) ∧ Below w.heap.size w w' := by
  obtain ⟨N, hN⟩ : ∃ N : ByteArray, (⟨(nameI op).toArray⟩ : ByteArray) = N := ⟨_, rfl⟩
  have hNl : N.data.toList = nameI op := by rw [← hN]
  have hfld := shape_name N (shA op) (shB op) (shC op)
  have K := inst_shapeOf op
  rw [hN] at K
  by_cases h : isOp op
  · have hne : nameI op ≠ [] := (name_known op).2 h
    have he : N.toList.isEmpty = false := by
      rw [Lib.toList_data, hNl]
      cases hl : nameI op with
      | nil => exact absurd hl hne
      | cons _ _ => rfl
    have KH := Lib.hid K
    have H := Lib.hid h
    clear K h hN hNl hne
    go_enter Tryz.func39, Tryz.ntmps39
    go_wp2_with fail
    refine (KH.out _).mono ?_
    rintro e w1 ⟨rfl, hb⟩
    go_wp2_with fail
    go_returns
    exact ⟨ret_bool (by rw [decide_eq_true H.out]), hb⟩
  · have hne : nameI op = [] := by
      by_cases h2 : nameI op = []
      · exact h2
      · exact absurd ((name_known op).1 h2) h
    have he : N.toList.isEmpty = true := by rw [Lib.toList_data, hNl, hne]; rfl
    have KH := Lib.hid K
    have H := Lib.hid h
    clear K h hN hNl hne
    go_enter Tryz.func39, Tryz.ntmps39
    go_wp2_with fail
    refine (KH.out _).mono ?_
    rintro e w1 ⟨rfl, hb⟩
    go_wp2_with fail
    go_returns
    exact ⟨ret_bool (by rw [decide_eq_false H.out]), hb⟩

theorem inst_within (v m : Int) (n : Bool) (w : World) :
    Calls Tryz.prog 73 #[.int .i64 v, .int .i64 m, .bool n] w fun e w' => e = .returned (.bool (withinI v m n)) ∧ w = w' := by
  cases n with
  | false =>
    by_cases h : v = 0
    · subst h
      go_enter Tryz.func73, Tryz.ntmps73
      go_wp2_with fail
      go_returns
      exact ⟨rfl, rfl⟩
    · have hq : (v == 0) = false := by rw [beq_eq_false_iff_ne]; exact h
      have H := Lib.hid h
      clear h
      go_enter Tryz.func73, Tryz.ntmps73
      go_wp2_with fail
      go_returns
      exact ⟨ret_bool (by unfold withinI; rw [if_neg (by decide), decide_eq_false H.out]), rfl⟩
  | true =>
    have hcase : (0 ≤ v ∧ v ≤ m) ∨ (0 ≤ v ∧ m < v) ∨ v < 0 := by omega
    rcases hcase with ⟨h1, h2⟩ | ⟨h1, h2⟩ | h1
    · have H := Lib.hid (decide_eq_true (show 0 ≤ v ∧ v ≤ m from ⟨h1, h2⟩))
      go_enter Tryz.func73, Tryz.ntmps73
      go_wp2_with fail
      go_returns
      exact ⟨ret_bool (by unfold withinI; simp; omega), rfl⟩
    · have H := Lib.hid (decide_eq_false (show ¬ (0 ≤ v ∧ v ≤ m) by omega))
      go_enter Tryz.func73, Tryz.ntmps73
      go_wp2_with fail
      go_returns
      exact ⟨ret_bool (by unfold withinI; simp; omega), rfl⟩
    · have H := Lib.hid (decide_eq_false (show ¬ (0 ≤ v ∧ v ≤ m) by omega))
      go_enter Tryz.func73, Tryz.ntmps73
      go_wp2_with fail
      go_returns
      exact ⟨ret_bool (by unfold withinI; simp; omega), rfl⟩

/-- An instruction in the box that the call makes first. -/
def insv (op a b c : Int) : Array Value := #[.int .i64 op, .int .i64 a, .int .i64 b, .int .i64 c]
structure Ib (w : World) (op a b c : Int) (W : World) : Prop where
  x : Blk W w.heap.size 70 #[.int .i64 op, .int .i64 a, .int .i64 b, .int .i64 c]
  bel : Below w.heap.size w W
section
variable {w W W' : World} {op a b c : Int}
theorem Ib.new (w : World) (op a b c : Int) : Ib w op a b c (w.alloc (.cells #[.int .i64 op, .int .i64 a, .int .i64 b, .int .i64 c] 70)) := ⟨Blk.new w _ _, (Below.refl _ w).alloc (Nat.le_refl _) _⟩
theorem Ib.below (h : Ib w op a b c W) (hb : Below W.heap.size W W') : Ib w op a b c W' := ⟨h.x.below hb h.x.lt, h.bel.trans (hb.mono h.bel.size)⟩
theorem Ib.alloc (h : Ib w op a b c W) (o : Obj) : Ib w op a b c (W.alloc o) := h.below ((Below.refl _ W).alloc (Nat.le_refl _) o)
theorem Ib.all (h : Ib w op a b c W) : W.cell? ⟨w.heap.size, 0, none⟩ = some (.int .i64 op) ∧ W.cell? ⟨w.heap.size, 1, none⟩ = some (.int .i64 a) ∧ W.cell? ⟨w.heap.size, 2, none⟩ = some (.int .i64 b) ∧ W.cell? ⟨w.heap.size, 3, none⟩ = some (.int .i64 c) :=
  ⟨h.x.cell 0, h.x.cell 1, h.x.cell 2, h.x.cell 3⟩
end

set_option maxHeartbeats 4000000 in
theorem inst_Right (op a b c : Int) (w : World) :
    Calls Tryz.prog 46 #[.agg #[.int .i64 op, .int .i64 a, .int .i64 b, .int .i64 c]] w fun e w' => e = .returned (.bool (rightI op a b c)) ∧ Below w.heap.size w w' := by
  obtain ⟨N, hN⟩ : ∃ N : ByteArray, (⟨(nameI op).toArray⟩ : ByteArray) = N := ⟨_, rfl⟩
  have K := inst_shapeOf op
  rw [hN] at K
  have hR : rightI op a b c = (decide (isOp op) && (withinI a 15 (shA op) && (withinI b 15 (shB op) && withinI c (if shC op = 2 then 15 else 65535) (decide (shC op ≠ 0))))) := rfl
  obtain ⟨R, hRR⟩ : ∃ R, rightI op a b c = R := ⟨_, rfl⟩
  rw [hRR] at hR ⊢
  have hC := shC_cases op
  generalize shA op = A at K hR
  generalize shB op = B at K hR
  generalize shC op = C at K hR hC
  have KH := Lib.hid K
  have K2 := Lib.hid (inst_known op)
  have K3 := Lib.hid inst_within
  clear K hN hRR
  generalize decide (isOp op) = O at K2 hR
  have hI := Ib.new w op a b c
  cases O with
  | false =>
    have HR : Hid (R = false) := hR
    clear hR hC
    go_enter Tryz.func46, Tryz.ntmps46
    go_wp2_with fail
    refine (K2.out _).mono ?_
    rintro e w1 ⟨rfl, hb⟩
    go_wp2_with fail
    go_returns
    exact ⟨ret_bool (by rw [HR.out]), (hI.below hb).bel⟩
  | true =>
    rw [Bool.true_and] at hR
    rcases hC with rfl | rfl | rfl
    all_goals
      cases hA : withinI a 15 A with
      | false =>
        rw [hA, Bool.false_and] at hR
        have HR := Lib.hid hR
        have HA := Lib.hid hA
        clear hR hA
        go_enter Tryz.func46, Tryz.ntmps46
        go_wp2_with fail
        refine (K2.out _).mono ?_
        rintro e w1 ⟨rfl, hb⟩
        have h1 := hI.below hb
        obtain ⟨i0, i1, i2, i3⟩ := h1.all
        clear hb hI
        go_wp2_with fail
        refine (KH.out _).mono ?_
        rintro e w2 ⟨rfl, hb⟩
        have h2 := h1.below hb
        clear h1 i0 i1 i2 i3 hb
        obtain ⟨i0, i1, i2, i3⟩ := h2.all
        have l2 := h2.x.lt
        go_wp2_with fail
        refine (K3.out a 15 A _).mono ?_
        rw [HA.out]
        rintro e w3 ⟨rfl, rfl⟩
        go_wp2_with fail
        go_returns
        exact ⟨ret_bool (by rw [HR.out]), (h2.alloc _).bel⟩
      | true =>
        rw [hA, Bool.true_and] at hR
        cases hB : withinI b 15 B with
        | false =>
          rw [hB, Bool.false_and] at hR
          have HR := Lib.hid hR
          have HA := Lib.hid hA
          have HB := Lib.hid hB
          clear hR hA hB
          go_enter Tryz.func46, Tryz.ntmps46
          go_wp2_with fail
          refine (K2.out _).mono ?_
          rintro e w1 ⟨rfl, hb⟩
          have h1 := hI.below hb
          obtain ⟨i0, i1, i2, i3⟩ := h1.all
          clear hb hI
          go_wp2_with fail
          refine (KH.out _).mono ?_
          rintro e w2 ⟨rfl, hb⟩
          have h2 := h1.below hb
          clear h1 i0 i1 i2 i3 hb
          obtain ⟨i0, i1, i2, i3⟩ := h2.all
          have l2 := h2.x.lt
          go_wp2_with fail
          refine (K3.out a 15 A _).mono ?_
          rw [HA.out]
          rintro e w3 ⟨rfl, rfl⟩
          go_wp2_with fail
          refine (K3.out b 15 B _).mono ?_
          rw [HB.out]
          rintro e w3 ⟨rfl, rfl⟩
          go_wp2_with fail
          go_returns
          exact ⟨ret_bool (by rw [HR.out]), (h2.alloc _).bel⟩
        | true =>
          rw [hB, Bool.true_and] at hR
          have HR := Lib.hid hR
          have HA := Lib.hid hA
          have HB := Lib.hid hB
          clear hR hA hB
          go_enter Tryz.func46, Tryz.ntmps46
          go_wp2_with fail
          refine (K2.out _).mono ?_
          rintro e w1 ⟨rfl, hb⟩
          have h1 := hI.below hb
          obtain ⟨i0, i1, i2, i3⟩ := h1.all
          clear hb hI
          go_wp2_with fail
          refine (KH.out _).mono ?_
          rintro e w2 ⟨rfl, hb⟩
          have h2 := h1.below hb
          clear h1 i0 i1 i2 i3 hb
          obtain ⟨i0, i1, i2, i3⟩ := h2.all
          have l2 := h2.x.lt
          go_wp2_with fail
          refine (K3.out a 15 A _).mono ?_
          rw [HA.out]
          rintro e w3 ⟨rfl, rfl⟩
          go_wp2_with fail
          refine (K3.out b 15 B _).mono ?_
          rw [HB.out]
          rintro e w3 ⟨rfl, rfl⟩
          go_wp2_with fail
          refine (K3.out c _ _ _).mono ?_
          rintro e w3 ⟨rfl, rfl⟩
          go_wp2_with fail
          go_returns
          exact ⟨ret_bool (by rw [HR.out]; rfl), (h2.alloc _).bel⟩
end Go.Proofs.YtknonabeagbjeaaGreatDoor
