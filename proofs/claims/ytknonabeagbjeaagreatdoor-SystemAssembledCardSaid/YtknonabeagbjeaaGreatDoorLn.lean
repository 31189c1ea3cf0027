/- The shelf's contracts at this seat, laid by name (written by the kit's tools, turned by a small program). -/
/- Layer 11: the set of targets, and the targets in order, walked. -/
import Derived.Shelf.SlGeneric
import Derived.Shelf.SlIterI.Nil
import Derived.Shelf.SlIterI.Sorted
import Derived.Shelf.SortM.Plain
import Derived.Shelf.SortM.SortNone
import Derived.Ground.GgzProg
import Derived.Ground.SlgmProg
import Derived.Test.YtknonabeagbjeaaGreatDoorProg
import Derived.Test.YtknonabeagbjeaaGreatDoorLm
import Derived.Test.YtknonabeagbjeaaGreatDoorLj
namespace Go.Proofs.YtknonabeagbjeaaGreatDoor
open Go.Shelf
end Go.Proofs.YtknonabeagbjeaaGreatDoor
namespace Go.Proofs.YtknonabeagbjeaaGreatDoor
open Go.RowKit Go.Maps Go.Sort Go.Shelf

structure Tg (w : World) (A : Option Addr) (n c : Nat) (d : Int) (W : World) : Prop where
  m : Blk W w.heap.size 24 #[.slice A n c, .int .i64 d]
  bel : Below w.heap.size w W
section
variable {w W W' : World} {A : Option Addr} {n c : Nat} {d : Int}
theorem Tg.new (w : World) (A : Option Addr) (n c : Nat) (d : Int) : Tg w A n c d (w.alloc (.cells #[.slice A n c, .int .i64 d] 24)) := ⟨Blk.new w _ _, (Below.refl _ w).alloc (Nat.le_refl _) _⟩
theorem Tg.below (h : Tg w A n c d W) (hb : Below W.heap.size W W') : Tg w A n c d W' := ⟨h.m.below hb h.m.lt, h.bel.trans (hb.mono h.bel.size)⟩
theorem Tg.alloc (h : Tg w A n c d W) (o : Obj) : Tg w A n c d (W.alloc o) := h.below ((Below.refl _ W).alloc (Nat.le_refl _) o)
theorem Tg.drew (h : Tg w A n c d W) : Tg w A n c d W.drew := h.below (Below.refl _ W).drew
theorem Tg.grown (h : Tg w A n c d W) {b : Nat} (hb : w.heap.size < b) (hg : W.grownBy W' (some b)) : Tg w A n c d W' :=
  ⟨(hg.block _ h.m.lt (fun e => by injection e with e; omega)).trans h.m, h.bel.grown hg h.bel.size (fun j hj => by cases hj; omega)⟩
theorem Tg.cells (h : Tg w A n c d W) : W.cell? ⟨w.heap.size, 0, none⟩ = some (.slice A n c) ∧ W.cell? ⟨w.heap.size, 1, none⟩ = some (.int .i64 d) := ⟨h.m.cell 0, h.m.cell 1⟩
end

set_option maxHeartbeats 2000000 in
theorem listing_targets (A : Option Addr) (code : List UInt32) (c : Nat) (d : Int) (w : World) (hA : Sl w w.heap.size A code.length (code.map wv)) (hn : code.length ≤ 20000) :
    Calls Tryz.prog 13 #[.agg #[.slice A code.length c, .int .i64 d]] w fun e w' => (∃ b, e = .returned (.map (some b)) ∧ w.heap.size ≤ b ∧ Tm w' b code code.length) ∧ Below w.heap.size w w' := by
  have hmm := @run_makeMap Tryz.prog
  have T0 := (Tg.new w A code.length c d).alloc (.map #[] 0)
  have M0 : Tm ((w.alloc (.cells #[.slice A code.length c, .int .i64 d] 24)).alloc (.map #[] 0)) (w.heap.size + 1) code 0 := by
    refine ⟨0, .map [], Nat.le_refl _, ?_, SetD.none.congr (fun x => (setB_zero code x).symm)⟩
    have h := World.ownsMap_made (w.alloc (.cells #[.slice A code.length c, .int .i64 d] 24)) Tryz.prog 3 (plainElem (H := Unit) Tryz.prog 4)
    have e : (w.alloc (.cells #[.slice A code.length c, .int .i64 d] 24)).heap.size = w.heap.size + 1 := by simp
    rw [e] at h
    exact h
  have t0 := T0.cells.1
  go_enter Tryz.func13, Tryz.ntmps13
  go_wp2_with fail
  generalize (w.alloc (.cells #[.slice A code.length c, .int .i64 d] 24)).alloc (.map #[] 0) = W0 at T0 M0 t0 ⊢
  go_loopw [12] (fun i wr => ∃ j : Nat, j ≤ code.length ∧ i = .int .i64 j ∧ Tm wr (w.heap.size + 1) code j ∧ Tg w A code.length c d wr) (fun i _ => code.length - (intOf i).toNat)
  case atStart => exact ⟨0, Nat.zero_le _, rfl, M0, T0⟩
  case round =>
    clear T0 M0 t0
    obtain ⟨j, hj, rfl, hM, hT⟩ := hrel
    by_cases hlt : j < code.length
    · obtain ⟨bk, off, rfl, hbk, hc⟩ := (hA.below hT.bel).word hlt
      have hjI : (j : Int) < code.length := by omega
      have hj0 : (0 : Int) ≤ j := by omega
      have KL := Lib.hid (listing_leads code[j])
      have hcase : (jmpB code[j] = false ∨ (jmpB code[j] = true ∧ ¬ cD code[j] < (code.length : Int))) ∨ (jmpB code[j] = true ∧ cD code[j] < (code.length : Int)) := by
        cases jmpB code[j] with
        | false => exact .inl (.inl rfl)
        | true => by_cases h : cD code[j] < (code.length : Int)
                  · exact .inr ⟨rfl, h⟩
                  · exact .inl (.inr ⟨rfl, h⟩)
      have HM := Lib.hid hM
      have HT := Lib.hid hT
      have t0 := hT.cells.1
      clear hM hT
      have hnI : (code.length : Int) ≤ 20000 := by omega
      obtain ⟨x, hx⟩ : ∃ x, code[j] = x := ⟨_, rfl⟩
      rcases hcase with (hj1 | ⟨hj1, hlt2⟩) | ⟨hj1, hlt2⟩
      · have hsk := Lib.hid (setB_skip hlt (.inl hj1))
        rw [hj1, lead_false hj1] at KL
        rw [hx] at hc KL
        clear hj1 hx
        go_wp2_with fail
        refine (KL.out _).mono ?_
        rintro e w1 ⟨rfl, hb1⟩
        have M1 := HM.out.below rfl hb1
        have T1 := HT.out.below hb1
        have HM1 : Hid (Tm w1 (w.heap.size + 1) code (j + 1)) := by
          obtain ⟨n, D, h1, h2, h3⟩ := M1
          exact ⟨n, D, by omega, h2, h3.congr (fun y => (hsk.out y).symm)⟩
        have HT1 := Lib.hid T1
        clear M1 T1 t0 hc
        go_wp2_with fail
        go_roundw
        case rel => exact ⟨j + 1, hlt, rfl, HM1.out, HT1.out⟩
        case measure => simp [intOf]; omega
      · have hsk := Lib.hid (setB_skip hlt (.inr hlt2))
        rw [hj1, lead_true hj1] at KL
        rw [hx] at hc KL hlt2
        clear hj1 hx
        go_wp2_with fail
        refine (KL.out _).mono ?_
        rintro e w1 ⟨rfl, hb1⟩
        have M1 := HM.out.below rfl hb1
        have T1 := HT.out.below hb1
        have HM1 : Hid (Tm w1 (w.heap.size + 1) code (j + 1)) := by
          obtain ⟨n, D, h1, h2, h3⟩ := M1
          exact ⟨n, D, by omega, h2, h3.congr (fun y => (hsk.out y).symm)⟩
        have HT1 := Lib.hid T1
        have t1 := T1.cells.1
        clear M1 T1 t0 hc
        go_wp2_with fail
        go_roundw
        case rel => exact ⟨j + 1, hlt, rfl, HM1.out, HT1.out⟩
        case measure => simp [intOf]; omega
      · have hpt := Lib.hid (setB_put hlt hj1 hlt2)
        have hcd : 0 ≤ cD code[j] ∧ cD code[j] < 65536 := by unfold cD; omega
        rw [hj1, lead_true hj1] at KL
        rw [hx] at hc KL hlt2 hpt hcd
        have hkey : keyOf Tryz.prog 3 (.int .i64 (cD x)) = some (.int .i64 (cD x)) := keyOf_int_mk Tryz.underlying3 (WalkArith.wf_i64 (by omega))
        clear hj1 hx
        go_wp2_with fail
        refine (KL.out _).mono ?_
        rintro e w1 ⟨rfl, hb1⟩
        obtain ⟨n, D, h1, hown, h3⟩ := HM.out.below rfl hb1
        have T1 := HT.out.below hb1
        have HT1 := Lib.hid T1
        have H3 := Lib.hid h3
        have t1 := T1.cells.1
        clear T1 t0 hc h3 hb1
        go_wp2_with (first | (at_mapUpdate; refine wpList_mapUpdate_own _ rfl _ _ _ 54 rfl 3 4 (int_keyed Tryz.underlying3) Tryz.underlying54 _ (w.heap.size + 1) n D rfl hown (by unfold maxLen; omega) _ _ _ rfl rfl hkey _ [] (plainElem_bool Tryz.underlying4 true) ?_; intro w2 hown2 hgrow2) | go_in)
        have HM2 : Hid (Tm w2 (w.heap.size + 1) code (j + 1)) := ⟨n + 1, _, by omega, hown2, (H3.out.put (cD x)).congr hpt.out⟩
        have HT2 := Lib.hid (HT1.out.grown (Nat.lt_succ_self _) hgrow2)
        clear hown2 hgrow2 hown t1
        go_wp2_with fail
        go_roundw
        case rel => exact ⟨j + 1, hlt, rfl, HM2.out, HT2.out⟩
        case measure => simp [intOf]; omega
    · obtain rfl : j = code.length := by omega
      have HM := Lib.hid hM
      have HT := Lib.hid hT
      clear hM hT
      go_wp2_with fail
      go_returns
      exact ⟨⟨_, rfl, Nat.le_succ _, HM.out⟩, HT.out.bel⟩
end Go.Proofs.YtknonabeagbjeaaGreatDoor
