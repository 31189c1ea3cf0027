/- Layer 12: an instruction's operands, walked, whole (printed by gen/ainl.py). -/
import Derived.Test.YtknonabeagbjeaaGreatDoorBk
import Derived.Test.YtknonabeagbjeaaGreatDoorInL
namespace Go.Proofs.YtknonabeagbjeaaGreatDoor
open Go.RowKit Go.Maps
theorem bs_toList (l : List UInt8) : (bs l).data.toList = l := rfl
theorem bs_size_le {l : List UInt8} (h : l.length ≤ 1000000) : (bs l).size ≤ 1000000 := by rw [size_len, bs_toList]; exact h
section
variable {s : Asm} {n op : Int}
theorem insX_ac (hA : shA op = true) (hB : shB op = false) (hC : shC op = 1) (x y : List UInt8) : insX s n op [x, y] = (match regX x with | some nx => withX s n op nx 0 y | _ => none) := by
  unfold insX
  rw [hA, hB, hC, decide_eq_true (show (1 : Int) = 1 by decide), decide_eq_false (show ¬ (1 : Int) = 2 by decide)]
  simp only
  cases regX x <;> rfl
theorem insX_ac_len (hA : shA op = true) (hB : shB op = false) (hC : shC op = 1) (gs : List (List UInt8)) (h : gs.length ≠ 2) : insX s n op gs = none :=
  match gs, h with
  | [], _ => by unfold insX; rw [hA, hB, hC, decide_eq_true (show (1 : Int) = 1 by decide), decide_eq_false (show ¬ (1 : Int) = 2 by decide)]
  | [_], _ => by unfold insX; rw [hA, hB, hC, decide_eq_true (show (1 : Int) = 1 by decide), decide_eq_false (show ¬ (1 : Int) = 2 by decide)]
  | [_, _], h => absurd rfl h
  | [_, _, _], _ => by unfold insX; rw [hA, hB, hC, decide_eq_true (show (1 : Int) = 1 by decide), decide_eq_false (show ¬ (1 : Int) = 2 by decide)]
  | _ :: _ :: _ :: _ :: _, _ => by unfold insX; rw [hA, hB, hC, decide_eq_true (show (1 : Int) = 1 by decide), decide_eq_false (show ¬ (1 : Int) = 2 by decide)]
theorem insX_ab (hA : shA op = true) (hB : shB op = true) (hC : shC op = 0) (x y : List UInt8) : insX s n op [x, y] = (match regX x, regX y with | some nx, some ny => encX s op nx ny 0 | _, _ => none) := by
  unfold insX
  rw [hA, hB, hC, decide_eq_false (show ¬ (0 : Int) = 1 by decide), decide_eq_false (show ¬ (0 : Int) = 2 by decide)]
  simp only
  cases regX x <;> cases regX y <;> rfl
theorem insX_ab_len (hA : shA op = true) (hB : shB op = true) (hC : shC op = 0) (gs : List (List UInt8)) (h : gs.length ≠ 2) : insX s n op gs = none :=
  match gs, h with
  | [], _ => by unfold insX; rw [hA, hB, hC, decide_eq_false (show ¬ (0 : Int) = 1 by decide), decide_eq_false (show ¬ (0 : Int) = 2 by decide)]
  | [_], _ => by unfold insX; rw [hA, hB, hC, decide_eq_false (show ¬ (0 : Int) = 1 by decide), decide_eq_false (show ¬ (0 : Int) = 2 by decide)]
  | [_, _], h => absurd rfl h
  | [_, _, _], _ => by unfold insX; rw [hA, hB, hC, decide_eq_false (show ¬ (0 : Int) = 1 by decide), decide_eq_false (show ¬ (0 : Int) = 2 by decide)]
  | _ :: _ :: _ :: _ :: _, _ => by unfold insX; rw [hA, hB, hC, decide_eq_false (show ¬ (0 : Int) = 1 by decide), decide_eq_false (show ¬ (0 : Int) = 2 by decide)]
theorem insX_abr (hA : shA op = true) (hB : shB op = true) (hC : shC op = 2) (x y z : List UInt8) : insX s n op [x, y, z] = (match regX x, regX y, regX z with | some nx, some ny, some nz => encX s op nx ny nz | _, _, _ => none) := by
  unfold insX
  rw [hA, hB, hC, decide_eq_false (show ¬ (2 : Int) = 1 by decide), decide_eq_true (show (2 : Int) = 2 by decide)]
  simp only
  cases regX x <;> cases regX y <;> cases regX z <;> rfl
theorem insX_abr_len (hA : shA op = true) (hB : shB op = true) (hC : shC op = 2) (gs : List (List UInt8)) (h : gs.length ≠ 3) : insX s n op gs = none :=
  match gs, h with
  | [], _ => by unfold insX; rw [hA, hB, hC, decide_eq_false (show ¬ (2 : Int) = 1 by decide), decide_eq_true (show (2 : Int) = 2 by decide)]
  | [_], _ => by unfold insX; rw [hA, hB, hC, decide_eq_false (show ¬ (2 : Int) = 1 by decide), decide_eq_true (show (2 : Int) = 2 by decide)]
  | [_, _], _ => by unfold insX; rw [hA, hB, hC, decide_eq_false (show ¬ (2 : Int) = 1 by decide), decide_eq_true (show (2 : Int) = 2 by decide)]
  | [_, _, _], h => absurd rfl h
  | _ :: _ :: _ :: _ :: _, _ => by unfold insX; rw [hA, hB, hC, decide_eq_false (show ¬ (2 : Int) = 1 by decide), decide_eq_true (show (2 : Int) = 2 by decide)]
theorem insX_abc (hA : shA op = true) (hB : shB op = true) (hC : shC op = 1) (x y z : List UInt8) : insX s n op [x, y, z] = (match regX x, regX y with | some nx, some ny => withX s n op nx ny z | _, _ => none) := by
  unfold insX
  rw [hA, hB, hC, decide_eq_true (show (1 : Int) = 1 by decide), decide_eq_false (show ¬ (1 : Int) = 2 by decide)]
  simp only
  cases regX x <;> cases regX y <;> rfl
theorem insX_abc_len (hA : shA op = true) (hB : shB op = true) (hC : shC op = 1) (gs : List (List UInt8)) (h : gs.length ≠ 3) : insX s n op gs = none :=
  match gs, h with
  | [], _ => by unfold insX; rw [hA, hB, hC, decide_eq_true (show (1 : Int) = 1 by decide), decide_eq_false (show ¬ (1 : Int) = 2 by decide)]
  | [_], _ => by unfold insX; rw [hA, hB, hC, decide_eq_true (show (1 : Int) = 1 by decide), decide_eq_false (show ¬ (1 : Int) = 2 by decide)]
  | [_, _], _ => by unfold insX; rw [hA, hB, hC, decide_eq_true (show (1 : Int) = 1 by decide), decide_eq_false (show ¬ (1 : Int) = 2 by decide)]
  | [_, _, _], h => absurd rfl h
  | _ :: _ :: _ :: _ :: _, _ => by unfold insX; rw [hA, hB, hC, decide_eq_true (show (1 : Int) = 1 by decide), decide_eq_false (show ¬ (1 : Int) = 2 by decide)]
theorem insX_c (hA : shA op = false) (hB : shB op = false) (hC : shC op = 1) (x : List UInt8) : insX s n op [x] = withX s n op 0 0 x := by
  unfold insX
  rw [hA, hB, hC, decide_eq_true (show (1 : Int) = 1 by decide), decide_eq_false (show ¬ (1 : Int) = 2 by decide)]
theorem insX_c_len (hA : shA op = false) (hB : shB op = false) (hC : shC op = 1) (gs : List (List UInt8)) (h : gs.length ≠ 1) : insX s n op gs = none :=
  match gs, h with
  | [], _ => by unfold insX; rw [hA, hB, hC, decide_eq_true (show (1 : Int) = 1 by decide), decide_eq_false (show ¬ (1 : Int) = 2 by decide)]
  | [_], h => absurd rfl h
  | [_, _], _ => by unfold insX; rw [hA, hB, hC, decide_eq_true (show (1 : Int) = 1 by decide), decide_eq_false (show ¬ (1 : Int) = 2 by decide)]
  | [_, _, _], _ => by unfold insX; rw [hA, hB, hC, decide_eq_true (show (1 : Int) = 1 by decide), decide_eq_false (show ¬ (1 : Int) = 2 by decide)]
  | _ :: _ :: _ :: _ :: _, _ => by unfold insX; rw [hA, hB, hC, decide_eq_true (show (1 : Int) = 1 by decide), decide_eq_false (show ¬ (1 : Int) = 2 by decide)]
theorem insX_a (hA : shA op = true) (hB : shB op = false) (hC : shC op = 0) (x : List UInt8) : insX s n op [x] = (match regX x with | some nx => encX s op nx 0 0 | _ => none) := by
  unfold insX
  rw [hA, hB, hC, decide_eq_false (show ¬ (0 : Int) = 1 by decide), decide_eq_false (show ¬ (0 : Int) = 2 by decide)]
  simp only
  cases regX x <;> rfl
theorem insX_a_len (hA : shA op = true) (hB : shB op = false) (hC : shC op = 0) (gs : List (List UInt8)) (h : gs.length ≠ 1) : insX s n op gs = none :=
  match gs, h with
  | [], _ => by unfold insX; rw [hA, hB, hC, decide_eq_false (show ¬ (0 : Int) = 1 by decide), decide_eq_false (show ¬ (0 : Int) = 2 by decide)]
  | [_], h => absurd rfl h
  | [_, _], _ => by unfold insX; rw [hA, hB, hC, decide_eq_false (show ¬ (0 : Int) = 1 by decide), decide_eq_false (show ¬ (0 : Int) = 2 by decide)]
  | [_, _, _], _ => by unfold insX; rw [hA, hB, hC, decide_eq_false (show ¬ (0 : Int) = 1 by decide), decide_eq_false (show ¬ (0 : Int) = 2 by decide)]
  | _ :: _ :: _ :: _ :: _, _ => by unfold insX; rw [hA, hB, hC, decide_eq_false (show ¬ (0 : Int) = 1 by decide), decide_eq_false (show ¬ (0 : Int) = 2 by decide)]
theorem insX_no (hA : shA op = false) (hB : shB op = false) (hC : shC op = 0) : insX s n op [] = encX s op 0 0 0 := by
  unfold insX
  rw [hA, hB, hC, decide_eq_false (show ¬ (0 : Int) = 1 by decide), decide_eq_false (show ¬ (0 : Int) = 2 by decide)]
theorem insX_no_len (hA : shA op = false) (hB : shB op = false) (hC : shC op = 0) (gs : List (List UInt8)) (h : gs.length ≠ 0) : insX s n op gs = none :=
  match gs, h with
  | [], h => absurd rfl h
  | [_], _ => by unfold insX; rw [hA, hB, hC, decide_eq_false (show ¬ (0 : Int) = 1 by decide), decide_eq_false (show ¬ (0 : Int) = 2 by decide)]
  | [_, _], _ => by unfold insX; rw [hA, hB, hC, decide_eq_false (show ¬ (0 : Int) = 1 by decide), decide_eq_false (show ¬ (0 : Int) = 2 by decide)]
  | [_, _, _], _ => by unfold insX; rw [hA, hB, hC, decide_eq_false (show ¬ (0 : Int) = 1 by decide), decide_eq_false (show ¬ (0 : Int) = 2 by decide)]
  | _ :: _ :: _ :: _ :: _, _ => by unfold insX; rw [hA, hB, hC, decide_eq_false (show ¬ (0 : Int) = 1 by decide), decide_eq_false (show ¬ (0 : Int) = 2 by decide)]
end
theorem instr_ac (q g c cu k : Nat) (s : Asm) (A U L : Option Addr) (n op : Int) (gs : List (List UInt8)) (W : World) (B : Nat) (hB : B ≤ q) (hT : Small W) (hA : shA op = true) (hBB : shB op = false) (hC : shC op = 1) (hS : Sl W W.heap.size L gs.length (gs.map sv)) (hgs : ∀ a ∈ gs, a.length ≤ 1000000) (hu : s.us.length ≤ 1000000) (h : Rs q g s A c U cu W) :
    Calls Tryz.prog 22 #[.pointer (some ⟨q, 0, none⟩), .int .i64 n, .int .i64 op, .slice L gs.length k] W (StepP B q g (insX s n op gs) W) := by
  by_cases hl : gs.length ≠ 2
  · exact ins_ac_len q g c cu s A U n op W B k hB h hA hBB hC L gs.length hl _ (insX_ac_len hA hBB hC gs hl)
  · obtain ⟨x, y, rfl⟩ : ∃ x y, gs = [x, y] := by
      match gs, (show gs.length = 2 by omega) with
      | [x, y], _ => exact ⟨x, y, rfl⟩
    obtain ⟨b, off, rfl, hb, hcell⟩ := hS.2 (Nat.succ_pos _)
    have c0 : W.cell? ⟨b, off, none⟩ = some (.string (bs x)) := hcell 0 _ rfl
    have z0 := bs_size_le (hgs x (by simp))
    have c1 : W.cell? ⟨b, off + 1, none⟩ = some (.string (bs y)) := hcell 1 _ rfl
    have z1 := bs_size_le (hgs y (by simp))
    cases hx : regX x with
    | none =>
      obtain ⟨k0, n0, g0, o0, w0⟩ := regX_none hx
      exact ins_ac_0 q g c cu s A U n op W B k hB h hA hBB hC (bs x) (bs y) _ hT b off hb c0 z0 c1 z1  k0 n0 g0 o0 w0 (by rw [insX_ac hA hBB hC x y, hx])
    | some n0 =>
      obtain ⟨g0, o0⟩ := regX_some hx
      exact ins_ac_ok q g c cu s A U n op W B k hB h hA hBB hC (bs x) (bs y) _ hT b off hb c0 z0 c1 z1 n0 g0 o0 hu (by rw [insX_ac hA hBB hC x y, hx])
theorem instr_ab (q g c cu k : Nat) (s : Asm) (A U L : Option Addr) (n op : Int) (gs : List (List UInt8)) (W : World) (B : Nat) (hB : B ≤ q) (hT : Small W) (hA : shA op = true) (hBB : shB op = true) (hC : shC op = 0) (hS : Sl W W.heap.size L gs.length (gs.map sv)) (hgs : ∀ a ∈ gs, a.length ≤ 1000000) (h : Rs q g s A c U cu W) :
    Calls Tryz.prog 22 #[.pointer (some ⟨q, 0, none⟩), .int .i64 n, .int .i64 op, .slice L gs.length k] W (StepP B q g (insX s n op gs) W) := by
  by_cases hl : gs.length ≠ 2
  · exact ins_ab_len q g c cu s A U n op W B k hB h hA hBB hC L gs.length hl _ (insX_ab_len hA hBB hC gs hl)
  · obtain ⟨x, y, rfl⟩ : ∃ x y, gs = [x, y] := by
      match gs, (show gs.length = 2 by omega) with
      | [x, y], _ => exact ⟨x, y, rfl⟩
    obtain ⟨b, off, rfl, hb, hcell⟩ := hS.2 (Nat.succ_pos _)
    have c0 : W.cell? ⟨b, off, none⟩ = some (.string (bs x)) := hcell 0 _ rfl
    have z0 := bs_size_le (hgs x (by simp))
    have c1 : W.cell? ⟨b, off + 1, none⟩ = some (.string (bs y)) := hcell 1 _ rfl
    have z1 := bs_size_le (hgs y (by simp))
    cases hx : regX x with
    | none =>
      obtain ⟨k0, n0, g0, o0, w0⟩ := regX_none hx
      exact ins_ab_0 q g c cu s A U n op W B k hB h hA hBB hC (bs x) (bs y) _ hT b off hb c0 z0 c1 z1  k0 n0 g0 o0 w0 (by rw [insX_ab hA hBB hC x y, hx])
    | some n0 =>
      obtain ⟨g0, o0⟩ := regX_some hx
      cases hy : regX y with
      | none =>
        obtain ⟨k1, n1, g1, o1, w1⟩ := regX_none hy
        exact ins_ab_1 q g c cu s A U n op W B k hB h hA hBB hC (bs x) (bs y) _ hT b off hb c0 z0 c1 z1 n0 g0 o0 k1 n1 g1 o1 w1 (by rw [insX_ab hA hBB hC x y, hx, hy])
      | some n1 =>
        obtain ⟨g1, o1⟩ := regX_some hy
        exact ins_ab_ok q g c cu s A U n op W B k hB h hA hBB hC (bs x) (bs y) _ hT b off hb c0 z0 c1 z1 n0 g0 o0 n1 g1 o1 (by rw [insX_ab hA hBB hC x y, hx, hy])
theorem instr_abr (q g c cu k : Nat) (s : Asm) (A U L : Option Addr) (n op : Int) (gs : List (List UInt8)) (W : World) (B : Nat) (hB : B ≤ q) (hT : Small W) (hA : shA op = true) (hBB : shB op = true) (hC : shC op = 2) (hS : Sl W W.heap.size L gs.length (gs.map sv)) (hgs : ∀ a ∈ gs, a.length ≤ 1000000) (h : Rs q g s A c U cu W) :
    Calls Tryz.prog 22 #[.pointer (some ⟨q, 0, none⟩), .int .i64 n, .int .i64 op, .slice L gs.length k] W (StepP B q g (insX s n op gs) W) := by
  by_cases hl : gs.length ≠ 3
  · exact ins_abr_len q g c cu s A U n op W B k hB h hA hBB hC L gs.length hl _ (insX_abr_len hA hBB hC gs hl)
  · obtain ⟨x, y, z, rfl⟩ : ∃ x y z, gs = [x, y, z] := by
      match gs, (show gs.length = 3 by omega) with
      | [x, y, z], _ => exact ⟨x, y, z, rfl⟩
    obtain ⟨b, off, rfl, hb, hcell⟩ := hS.2 (Nat.succ_pos _)
    have c0 : W.cell? ⟨b, off, none⟩ = some (.string (bs x)) := hcell 0 _ rfl
    have z0 := bs_size_le (hgs x (by simp))
    have c1 : W.cell? ⟨b, off + 1, none⟩ = some (.string (bs y)) := hcell 1 _ rfl
    have z1 := bs_size_le (hgs y (by simp))
    have c2 : W.cell? ⟨b, off + 2, none⟩ = some (.string (bs z)) := hcell 2 _ rfl
    have z2 := bs_size_le (hgs z (by simp))
    cases hx : regX x with
    | none =>
      obtain ⟨k0, n0, g0, o0, w0⟩ := regX_none hx
      exact ins_abr_0 q g c cu s A U n op W B k hB h hA hBB hC (bs x) (bs y) (bs z) _ hT b off hb c0 z0 c1 z1 c2 z2  k0 n0 g0 o0 w0 (by rw [insX_abr hA hBB hC x y z, hx])
    | some n0 =>
      obtain ⟨g0, o0⟩ := regX_some hx
      cases hy : regX y with
      | none =>
        obtain ⟨k1, n1, g1, o1, w1⟩ := regX_none hy
        exact ins_abr_1 q g c cu s A U n op W B k hB h hA hBB hC (bs x) (bs y) (bs z) _ hT b off hb c0 z0 c1 z1 c2 z2 n0 g0 o0 k1 n1 g1 o1 w1 (by rw [insX_abr hA hBB hC x y z, hx, hy])
      | some n1 =>
        obtain ⟨g1, o1⟩ := regX_some hy
        cases hz : regX z with
        | none =>
          obtain ⟨k2, n2, g2, o2, w2⟩ := regX_none hz
          exact ins_abr_2 q g c cu s A U n op W B k hB h hA hBB hC (bs x) (bs y) (bs z) _ hT b off hb c0 z0 c1 z1 c2 z2 n0 g0 o0 n1 g1 o1 k2 n2 g2 o2 w2 (by rw [insX_abr hA hBB hC x y z, hx, hy, hz])
        | some n2 =>
          obtain ⟨g2, o2⟩ := regX_some hz
          exact ins_abr_ok q g c cu s A U n op W B k hB h hA hBB hC (bs x) (bs y) (bs z) _ hT b off hb c0 z0 c1 z1 c2 z2 n0 g0 o0 n1 g1 o1 n2 g2 o2 (by rw [insX_abr hA hBB hC x y z, hx, hy, hz])
theorem instr_abc (q g c cu k : Nat) (s : Asm) (A U L : Option Addr) (n op : Int) (gs : List (List UInt8)) (W : World) (B : Nat) (hB : B ≤ q) (hT : Small W) (hA : shA op = true) (hBB : shB op = true) (hC : shC op = 1) (hS : Sl W W.heap.size L gs.length (gs.map sv)) (hgs : ∀ a ∈ gs, a.length ≤ 1000000) (hu : s.us.length ≤ 1000000) (h : Rs q g s A c U cu W) :
    Calls Tryz.prog 22 #[.pointer (some ⟨q, 0, none⟩), .int .i64 n, .int .i64 op, .slice L gs.length k] W (StepP B q g (insX s n op gs) W) := by
  by_cases hl : gs.length ≠ 3
  · exact ins_abc_len q g c cu s A U n op W B k hB h hA hBB hC L gs.length hl _ (insX_abc_len hA hBB hC gs hl)
  · obtain ⟨x, y, z, rfl⟩ : ∃ x y z, gs = [x, y, z] := by
      match gs, (show gs.length = 3 by omega) with
      | [x, y, z], _ => exact ⟨x, y, z, rfl⟩
    obtain ⟨b, off, rfl, hb, hcell⟩ := hS.2 (Nat.succ_pos _)
    have c0 : W.cell? ⟨b, off, none⟩ = some (.string (bs x)) := hcell 0 _ rfl
    have z0 := bs_size_le (hgs x (by simp))
    have c1 : W.cell? ⟨b, off + 1, none⟩ = some (.string (bs y)) := hcell 1 _ rfl
    have z1 := bs_size_le (hgs y (by simp))
    have c2 : W.cell? ⟨b, off + 2, none⟩ = some (.string (bs z)) := hcell 2 _ rfl
    have z2 := bs_size_le (hgs z (by simp))
    cases hx : regX x with
    | none =>
      obtain ⟨k0, n0, g0, o0, w0⟩ := regX_none hx
      exact ins_abc_0 q g c cu s A U n op W B k hB h hA hBB hC (bs x) (bs y) (bs z) _ hT b off hb c0 z0 c1 z1 c2 z2  k0 n0 g0 o0 w0 (by rw [insX_abc hA hBB hC x y z, hx])
    | some n0 =>
      obtain ⟨g0, o0⟩ := regX_some hx
      cases hy : regX y with
      | none =>
        obtain ⟨k1, n1, g1, o1, w1⟩ := regX_none hy
        exact ins_abc_1 q g c cu s A U n op W B k hB h hA hBB hC (bs x) (bs y) (bs z) _ hT b off hb c0 z0 c1 z1 c2 z2 n0 g0 o0 k1 n1 g1 o1 w1 (by rw [insX_abc hA hBB hC x y z, hx, hy])
      | some n1 =>
        obtain ⟨g1, o1⟩ := regX_some hy
        exact ins_abc_ok q g c cu s A U n op W B k hB h hA hBB hC (bs x) (bs y) (bs z) _ hT b off hb c0 z0 c1 z1 c2 z2 n0 g0 o0 n1 g1 o1 hu (by rw [insX_abc hA hBB hC x y z, hx, hy])
theorem instr_c (q g c cu k : Nat) (s : Asm) (A U L : Option Addr) (n op : Int) (gs : List (List UInt8)) (W : World) (B : Nat) (hB : B ≤ q) (hT : Small W) (hA : shA op = false) (hBB : shB op = false) (hC : shC op = 1) (hS : Sl W W.heap.size L gs.length (gs.map sv)) (hgs : ∀ a ∈ gs, a.length ≤ 1000000) (hu : s.us.length ≤ 1000000) (h : Rs q g s A c U cu W) :
    Calls Tryz.prog 22 #[.pointer (some ⟨q, 0, none⟩), .int .i64 n, .int .i64 op, .slice L gs.length k] W (StepP B q g (insX s n op gs) W) := by
  by_cases hl : gs.length ≠ 1
  · exact ins_c_len q g c cu s A U n op W B k hB h hA hBB hC L gs.length hl _ (insX_c_len hA hBB hC gs hl)
  · obtain ⟨x, rfl⟩ : ∃ x, gs = [x] := by
      match gs, (show gs.length = 1 by omega) with
      | [x], _ => exact ⟨x, rfl⟩
    obtain ⟨b, off, rfl, hb, hcell⟩ := hS.2 (Nat.succ_pos _)
    have c0 : W.cell? ⟨b, off, none⟩ = some (.string (bs x)) := hcell 0 _ rfl
    have z0 := bs_size_le (hgs x (by simp))
    exact ins_c_ok q g c cu s A U n op W B k hB h hA hBB hC (bs x) _ hT b off hb c0 z0  hu (insX_c hA hBB hC x).symm
theorem instr_a (q g c cu k : Nat) (s : Asm) (A U L : Option Addr) (n op : Int) (gs : List (List UInt8)) (W : World) (B : Nat) (hB : B ≤ q) (hT : Small W) (hA : shA op = true) (hBB : shB op = false) (hC : shC op = 0) (hS : Sl W W.heap.size L gs.length (gs.map sv)) (hgs : ∀ a ∈ gs, a.length ≤ 1000000) (h : Rs q g s A c U cu W) :
    Calls Tryz.prog 22 #[.pointer (some ⟨q, 0, none⟩), .int .i64 n, .int .i64 op, .slice L gs.length k] W (StepP B q g (insX s n op gs) W) := by
  by_cases hl : gs.length ≠ 1
  · exact ins_a_len q g c cu s A U n op W B k hB h hA hBB hC L gs.length hl _ (insX_a_len hA hBB hC gs hl)
  · obtain ⟨x, rfl⟩ : ∃ x, gs = [x] := by
      match gs, (show gs.length = 1 by omega) with
      | [x], _ => exact ⟨x, rfl⟩
    obtain ⟨b, off, rfl, hb, hcell⟩ := hS.2 (Nat.succ_pos _)
    have c0 : W.cell? ⟨b, off, none⟩ = some (.string (bs x)) := hcell 0 _ rfl
    have z0 := bs_size_le (hgs x (by simp))
    cases hx : regX x with
    | none =>
      obtain ⟨k0, n0, g0, o0, w0⟩ := regX_none hx
      exact ins_a_0 q g c cu s A U n op W B k hB h hA hBB hC (bs x) _ hT b off hb c0 z0  k0 n0 g0 o0 w0 (by rw [insX_a hA hBB hC x, hx])
    | some n0 =>
      obtain ⟨g0, o0⟩ := regX_some hx
      exact ins_a_ok q g c cu s A U n op W B k hB h hA hBB hC (bs x) _ hT b off hb c0 z0 n0 g0 o0 (by rw [insX_a hA hBB hC x, hx])
theorem instr_no (q g c cu k : Nat) (s : Asm) (A U L : Option Addr) (n op : Int) (gs : List (List UInt8)) (W : World) (B : Nat) (hB : B ≤ q) (hA : shA op = false) (hBB : shB op = false) (hC : shC op = 0) (h : Rs q g s A c U cu W) :
    Calls Tryz.prog 22 #[.pointer (some ⟨q, 0, none⟩), .int .i64 n, .int .i64 op, .slice L gs.length k] W (StepP B q g (insX s n op gs) W) := by
  by_cases hl : gs.length ≠ 0
  · exact ins_no_len q g c cu s A U n op W B k hB h hA hBB hC L gs.length hl _ (insX_no_len hA hBB hC gs hl)
  · obtain rfl : gs = [] := List.eq_nil_of_length_eq_zero (by omega)
    exact ins_no_ok q g c cu s A U n op W B k hB h hA hBB hC L _ (insX_no hA hBB hC).symm
theorem asm_instruction (q g c cu k : Nat) (s : Asm) (A U L : Option Addr) (n op : Int) (gs : List (List UInt8)) (W : World) (B : Nat) (hB : B ≤ q) (hT : Small W) (hop1 : 1 ≤ op) (hop2 : op < 28) (hS : Sl W W.heap.size L gs.length (gs.map sv)) (hgs : ∀ a ∈ gs, a.length ≤ 1000000) (hu : s.us.length ≤ 1000000) (h : Rs q g s A c U cu W) :
    Calls Tryz.prog 22 #[.pointer (some ⟨q, 0, none⟩), .int .i64 n, .int .i64 op, .slice L gs.length k] W (StepP B q g (insX s n op gs) W) := by
  have hco := shape_all op.toNat (by omega) (by omega)
  rw [Int.toNat_of_nonneg (by omega)] at hco
  rcases combo_of hco with ⟨hA, hBB, hC⟩ | ⟨hA, hBB, hC⟩ | ⟨hA, hBB, hC⟩ | ⟨hA, hBB, hC⟩ | ⟨hA, hBB, hC⟩ | ⟨hA, hBB, hC⟩ | ⟨hA, hBB, hC⟩
  · exact instr_ac q g c cu k s A U L n op gs W B hB hT hA hBB hC hS hgs hu h
  · exact instr_ab q g c cu k s A U L n op gs W B hB hT hA hBB hC hS hgs h
  · exact instr_abr q g c cu k s A U L n op gs W B hB hT hA hBB hC hS hgs h
  · exact instr_abc q g c cu k s A U L n op gs W B hB hT hA hBB hC hS hgs hu h
  · exact instr_c q g c cu k s A U L n op gs W B hB hT hA hBB hC hS hgs hu h
  · exact instr_a q g c cu k s A U L n op gs W B hB hT hA hBB hC hS hgs h
  · exact instr_no q g c cu k s A U L n op gs W B hB hA hBB hC h
end Go.Proofs.YtknonabeagbjeaaGreatDoor
