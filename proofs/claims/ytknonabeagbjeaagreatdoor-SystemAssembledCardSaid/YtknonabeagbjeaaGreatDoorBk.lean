/- Layer 12: an instruction's operands, walked (printed by gen/ains.py). -/
import Derived.Test.YtknonabeagbjeaaGreatDoorBj
namespace Go.Proofs.YtknonabeagbjeaaGreatDoor
open Go.RowKit Go.Maps

theorem regX_some {l : List UInt8} {n : Nat} (h : regX l = some n) : ∃ g, opndX l = (1, n, g) := by
  unfold regX at h
  simp only at h
  split at h
  · rename_i h1
    injection h with h
    exact ⟨(opndX l).2.2, by rw [← h, ← h1]⟩
  · cases h
theorem regX_none {l : List UInt8} (h : regX l = none) : ∃ k n g, opndX l = (k, n, g) ∧ k ≠ 1 := by
  unfold regX at h
  simp only at h
  split at h
  · cases h
  · rename_i h1
    exact ⟨_, _, _, rfl, h1⟩
theorem parts_at (op : Int) (W : World) (a b : Bool) (k : Int) (h1 : shA op = a) (h2 : shB op = b) (h3 : shC op = k) : Calls Tryz.prog 41 #[.int .i64 op] W fun e w' => e = .returned (.tuple #[.bool a, .bool b, .int .i64 k]) ∧ Below W.heap.size W w' := by
  have h := inst_Parts op W
  rw [h1, h2, h3] at h
  exact h
theorem opnd_at {x : ByteArray} {k : Int} {n : Nat} {g : Bool} (h : opndX x.data.toList = (k, n, g)) (hx : x.size ≤ 1000000) (W : World) (hT : Small W) :
    Calls Tryz.prog 37 #[.string x] W fun e w' => e = .returned (.agg #[.int .i64 k, .int .u32 (n : Nat), .bool g]) ∧ Below W.heap.size W w' := by
  have h2 := asm_operandOf x W hx hT
  rw [h] at h2
  exact h2
theorem int_conv (n : Nat) (h : n < 4294967296) : IntKind.i64.wrap (n : Int) = (n : Int) := IntWalk.i64_in _ (by omega)
/-- The instruction's box beside all that stood. -/
structure Iz (W0 : World) (b1 : Nat) (ins : Array Value) (W : World) : Prop where
  i : Blk W b1 70 ins
  bel : Below W0.heap.size W0 W
  lo : W0.heap.size ≤ b1
theorem Iz.below {W0 W W' : World} {b1 D : Nat} {ins : Array Value} (h : Iz W0 b1 ins W) (hb : Below D W W') (hD : b1 < D) : Iz W0 b1 ins W' := ⟨h.i.below hb hD, h.bel.trans (hb.mono (by have := h.lo; omega)), h.lo⟩
theorem Iz.set {W0 W : World} {b1 : Nat} {ins : Array Value} (h : Iz W0 b1 ins W) (k : Nat) (u : Value) (o : Obj) : Iz W0 b1 (ins.setIfInBounds k u) ((W.setCell ⟨b1, k, none⟩ u).alloc o) :=
  ⟨(h.i.set k u).alloc o, (h.bel.setCell (p := ⟨b1, k, none⟩) h.lo u).alloc (Nat.le_trans h.lo (Nat.le_of_lt ((h.i.set k u).lt))) o, h.lo⟩
theorem own_round {W W' : World} {B b1 n k : Nat} {v u : Value} {xs : List Value} {ins : Array Value} {o : Obj} (h : W.ownsRow B 91 1 v n xs) (hb : Below W.heap.size W W') (hi : Blk W' b1 70 ins) : ((W'.setCell ⟨b1, k, none⟩ u).alloc o).ownsRow B 91 1 v n xs :=
  own_below (own_far (own_below h rfl hb) hi (by decide)) rfl ((Below.refl _ _).alloc (Nat.le_refl _) o)

set_option maxRecDepth 100000 in
set_option maxHeartbeats 8000000 in
theorem ins_ac_len (q g c cu : Nat) (s : Asm) (A U : Option Addr) (n op : Int) (W : World) (B k : Nat) (hB : B ≤ q) (h : Rs q g s A c U cu W) (hA : shA op = true) (hBB : shB op = false) (hC : shC op = 1) (L : Option Addr) (m : Nat) (hm : m ≠ 2) (X : Option Asm) (hX : X = none) :
    Calls Tryz.prog 22 #[.pointer (some ⟨q, 0, none⟩), .int .i64 n, .int .i64 op, .slice L m k] W (StepP B q g X W) := by
  have hq := h.m.lt
  have KPa := Lib.hid (parts_at op W true false 1 hA hBB hC)
  have HR := Lib.hid h
  clear h hA hBB hC
  have hmq : ((m : Int) != 2) = true := by rw [bne_iff_ne]; omega
  clear hm
  have HX := Lib.hid hX
  clear hX
  go_enter Tryz.func22, Tryz.ntmps22
  go_wp2_with fail
  refine KPa.out.mono ?_
  rintro e w1 ⟨rfl, hb1⟩
  have I1 : Iz W w1.heap.size #[.int .i64 op, .int .i64 0, .int .i64 0, .int .i64 0] (w1.alloc (.cells #[.int .i64 op, .int .i64 0, .int .i64 0, .int .i64 0] 70)) := ⟨Blk.new w1 _ _, hb1.alloc hb1.size _, hb1.size⟩
  have hs1 : (w1.alloc (.cells #[.int .i64 op, .int .i64 0, .int .i64 0, .int .i64 0] 70)).heap.size = w1.heap.size + 1 := by simp
  clear hb1
  have own0 : (w1.alloc (.cells #[.int .i64 op, .int .i64 0, .int .i64 0, .int .i64 0] 70)).ownsRow (w1.heap.size + 1) 91 1 (.slice none 0 0) 0 [] := World.ownsRow_nil _ _ _ _
  have s0 : w1.heap.size + 1 ≤ (w1.alloc (.cells #[.int .i64 op, .int .i64 0, .int .i64 0, .int .i64 0] 70)).heap.size := Nat.le_of_eq hs1.symm
  clear hs1
  have HI1 := Lib.hid I1
  clear I1
  go_wp2_with (first | (at_builtin; refine wpList_append_new rfl _ _ 90 rfl (w1.heap.size + 1) (.pointer none) 1 8 Tryz.underlying90 (by kernel_rfl) rfl (by decide) _ 0 _ rfl own0 1 (by simp only [World.size_alloc]; rfl) rfl (by simp [Value.oneCell']) (by omega) (by omega) s0 ?_; intro v1 u1 own1 hb1 hk1; obtain ⟨r1, d1, rfl, -, hr1, -⟩ := own_form own1 (by decide); replace own1 : u1.ownsRow (w1.heap.size + 1) 91 1 (.slice (some ⟨r1, 0, none⟩) 1 d1) 1 [.pointer (some ⟨w1.heap.size, 1, none⟩)] := own1; have HI2 := Lib.hid (HI1.out.below hb1 (Nat.lt_succ_self _)); have s1 : w1.heap.size + 1 ≤ u1.heap.size := Nat.le_trans s0 hb1.size; clear hk1 hb1 own0))
  go_returns
  exact StepP.bad HX.out 1 (by decide) (HI2.out.bel.mono (by omega)) (Kp.below HI2.out.bel)

set_option maxRecDepth 100000 in
set_option maxHeartbeats 8000000 in
theorem ins_ac_0 (q g c cu : Nat) (s : Asm) (A U : Option Addr) (n op : Int) (W : World) (B k : Nat) (hB : B ≤ q) (h : Rs q g s A c U cu W) (hA : shA op = true) (hBB : shB op = false) (hC : shC op = 1) (x0 x1 : ByteArray) (X : Option Asm)
    (hT : Small W) (b off : Nat) (hb : b < W.heap.size) (c0 : W.cell? ⟨b, off, none⟩ = some (.string x0)) (z0 : x0.size ≤ 1000000) (_c1 : W.cell? ⟨b, off + 1, none⟩ = some (.string x1)) (_z1 : x1.size ≤ 1000000)
    (k0 : Int) (n0 : Nat) (g0 : Bool) (o0 : opndX x0.data.toList = (k0, n0, g0)) (w0 : k0 ≠ 1)
    (hX : X = none) :
    Calls Tryz.prog 22 #[.pointer (some ⟨q, 0, none⟩), .int .i64 n, .int .i64 op, .slice (some ⟨b, off, none⟩) 2 k] W (StepP B q g X W) := by
  have hq := h.m.lt
  have KPa := Lib.hid (parts_at op W true false 1 hA hBB hC)
  have HR := Lib.hid h
  clear h hA hBB hC
  have KO0 := Lib.hid (opnd_at o0 z0)
  have wq : (k0 != 1) = true := by rw [bne_iff_ne]; exact w0
  clear w0
  clear o0
  have HX := Lib.hid hX
  clear hX
  go_enter Tryz.func22, Tryz.ntmps22
  go_wp2_with fail
  refine KPa.out.mono ?_
  rintro e w1 ⟨rfl, hb1⟩
  have I1 : Iz W w1.heap.size #[.int .i64 op, .int .i64 0, .int .i64 0, .int .i64 0] (w1.alloc (.cells #[.int .i64 op, .int .i64 0, .int .i64 0, .int .i64 0] 70)) := ⟨Blk.new w1 _ _, hb1.alloc hb1.size _, hb1.size⟩
  have hs1 : (w1.alloc (.cells #[.int .i64 op, .int .i64 0, .int .i64 0, .int .i64 0] 70)).heap.size = w1.heap.size + 1 := by simp
  clear hb1
  have own0 : (w1.alloc (.cells #[.int .i64 op, .int .i64 0, .int .i64 0, .int .i64 0] 70)).ownsRow (w1.heap.size + 1) 91 1 (.slice none 0 0) 0 [] := World.ownsRow_nil _ _ _ _
  have s0 : w1.heap.size + 1 ≤ (w1.alloc (.cells #[.int .i64 op, .int .i64 0, .int .i64 0, .int .i64 0] 70)).heap.size := Nat.le_of_eq hs1.symm
  clear hs1
  have HI1 := Lib.hid I1
  clear I1
  go_wp2_with (first | (at_builtin; refine wpList_append_new rfl _ _ 90 rfl (w1.heap.size + 1) (.pointer none) 1 8 Tryz.underlying90 (by kernel_rfl) rfl (by decide) _ 0 _ rfl own0 1 (by simp only [World.size_alloc]; rfl) rfl (by simp [Value.oneCell']) (by omega) (by omega) s0 ?_; intro v1 u1 own1 hb1 hk1; obtain ⟨r1, d1, rfl, -, hr1, -⟩ := own_form own1 (by decide); replace own1 : u1.ownsRow (w1.heap.size + 1) 91 1 (.slice (some ⟨r1, 0, none⟩) 1 d1) 1 [.pointer (some ⟨w1.heap.size, 1, none⟩)] := own1; have HI2 := Lib.hid (HI1.out.below hb1 (Nat.lt_succ_self _)); have s1 : w1.heap.size + 1 ≤ u1.heap.size := Nat.le_trans s0 hb1.size; clear hk1 hb1 own0))
  refine wp_loop_rounds 1 ?_
  have bl0 := HI2.out.bel
  have rp0 := own_cell own1 (k := 0) (u := .pointer (some ⟨w1.heap.size, 1, none⟩)) rfl
  have ca0 := (bl0.cell (p := ⟨b, off, none⟩) hb).trans c0
  have sm0 := hT.below bl0 hT.1
  clear bl0
  rw [rounds_succ]
  go_wp2_with fail
  refine (KO0.out _ sm0).mono ?_
  rintro e y0 ⟨rfl, by0⟩
  have bc := fun o => (HI2.out.bel.trans (by0.mono HI2.out.bel.size)).alloc (HI2.out.bel.trans (by0.mono HI2.out.bel.size)).size o
  clear by0 sm0 rp0 ca0
  go_wp2_with fail
  go_returns
  exact StepP.bad HX.out 1 (by decide) ((bc _).mono (by omega)) (Kp.below (bc _))

set_option maxRecDepth 100000 in
set_option maxHeartbeats 8000000 in
theorem ins_ac_ok (q g c cu : Nat) (s : Asm) (A U : Option Addr) (n op : Int) (W : World) (B k : Nat) (hB : B ≤ q) (h : Rs q g s A c U cu W) (hA : shA op = true) (hBB : shB op = false) (hC : shC op = 1) (x0 x1 : ByteArray) (X : Option Asm)
    (hT : Small W) (b off : Nat) (hb : b < W.heap.size) (c0 : W.cell? ⟨b, off, none⟩ = some (.string x0)) (z0 : x0.size ≤ 1000000) (c1 : W.cell? ⟨b, off + 1, none⟩ = some (.string x1)) (z1 : x1.size ≤ 1000000)
    (n0 : Nat) (g0 : Bool) (o0 : opndX x0.data.toList = (1, n0, g0))
    (hu : s.us.length ≤ 1000000) (hX : withX s n op n0 0 x1.data.toList = X) :
    Calls Tryz.prog 22 #[.pointer (some ⟨q, 0, none⟩), .int .i64 n, .int .i64 op, .slice (some ⟨b, off, none⟩) 2 k] W (StepP B q g X W) := by
  have hq := h.m.lt
  have KPa := Lib.hid (parts_at op W true false 1 hA hBB hC)
  have HR := Lib.hid h
  clear h hA hBB hC
  have KO0 := Lib.hid (opnd_at o0 z0)
  have l0 : n0 < 4294967296 := by have h := opnd_lt x0.data.toList; rw [o0] at h; exact h
  have wr0 := int_conv n0 l0
  have p0 : (0 : Int) ≤ n0 := by omega
  clear o0
  have HX := Lib.hid hX
  clear hX
  go_enter Tryz.func22, Tryz.ntmps22
  go_wp2_with fail
  refine KPa.out.mono ?_
  rintro e w1 ⟨rfl, hb1⟩
  have I1 : Iz W w1.heap.size #[.int .i64 op, .int .i64 0, .int .i64 0, .int .i64 0] (w1.alloc (.cells #[.int .i64 op, .int .i64 0, .int .i64 0, .int .i64 0] 70)) := ⟨Blk.new w1 _ _, hb1.alloc hb1.size _, hb1.size⟩
  have hs1 : (w1.alloc (.cells #[.int .i64 op, .int .i64 0, .int .i64 0, .int .i64 0] 70)).heap.size = w1.heap.size + 1 := by simp
  clear hb1
  have own0 : (w1.alloc (.cells #[.int .i64 op, .int .i64 0, .int .i64 0, .int .i64 0] 70)).ownsRow (w1.heap.size + 1) 91 1 (.slice none 0 0) 0 [] := World.ownsRow_nil _ _ _ _
  have s0 : w1.heap.size + 1 ≤ (w1.alloc (.cells #[.int .i64 op, .int .i64 0, .int .i64 0, .int .i64 0] 70)).heap.size := Nat.le_of_eq hs1.symm
  clear hs1
  have HI1 := Lib.hid I1
  clear I1
  go_wp2_with (first | (at_builtin; refine wpList_append_new rfl _ _ 90 rfl (w1.heap.size + 1) (.pointer none) 1 8 Tryz.underlying90 (by kernel_rfl) rfl (by decide) _ 0 _ rfl own0 1 (by simp only [World.size_alloc]; rfl) rfl (by simp [Value.oneCell']) (by omega) (by omega) s0 ?_; intro v1 u1 own1 hb1 hk1; obtain ⟨r1, d1, rfl, -, hr1, -⟩ := own_form own1 (by decide); replace own1 : u1.ownsRow (w1.heap.size + 1) 91 1 (.slice (some ⟨r1, 0, none⟩) 1 d1) 1 [.pointer (some ⟨w1.heap.size, 1, none⟩)] := own1; have HI2 := Lib.hid (HI1.out.below hb1 (Nat.lt_succ_self _)); have s1 : w1.heap.size + 1 ≤ u1.heap.size := Nat.le_trans s0 hb1.size; clear hk1 hb1 own0))
  refine wp_loop_rounds 2 ?_
  have bl0 := HI2.out.bel
  have rp0 := own_cell own1 (k := 0) (u := .pointer (some ⟨w1.heap.size, 1, none⟩)) rfl
  have ca0 := (bl0.cell (p := ⟨b, off, none⟩) hb).trans c0
  have sm0 := hT.below bl0 hT.1
  clear bl0
  rw [rounds_succ]
  go_wp2_with fail
  refine (KO0.out _ sm0).mono ?_
  rintro e y0 ⟨rfl, by0⟩
  have J0 := HI2.out.below by0 HI2.out.i.lt
  have jc := J0.i.cell 1
  have jf := J0.i.frozen 1
  have jl := J0.i.lt
  have ow := own_round (k := 1) (u := .int .i64 (n0 : Nat)) (o := .cells #[.int .i64 1, .int .u32 (n0 : Nat), .bool g0] 81) own1 by0 J0.i
  have HJ := Lib.hid (J0.set 1 (.int .i64 (n0 : Nat)) (.cells #[.int .i64 1, .int .u32 (n0 : Nat), .bool g0] 81))
  have HOW := Lib.hid ow
  clear by0 sm0 rp0 ca0 J0 ow own1
  go_wp2_with fail
  have hj := HJ.out
  have ho := HOW.out
  clear jc jf jl HJ HOW
  generalize World.alloc (World.setCell _ _ _) _ = V0 at hj ho ⊢
  have HI30 := Lib.hid hj
  have own30 := ho
  clear hj ho
  rw [rounds_succ]
  have E0 := HI30.out.i.cell 0
  have E1 := HI30.out.i.cell 1
  have E2 := HI30.out.i.cell 2
  have E3 := HI30.out.i.cell 3
  have ca := (HI30.out.bel.cell (p := ⟨b, off + 1, none⟩) hb).trans c1
  have sm := hT.below HI30.out.bel hT.1
  have R := HR.out.below rfl HI30.out.bel
  have KW := fun W2 => asm_withC q g c cu s A U n op (n0 : Nat) 0 x1 W2 B hB
  have HKW := Lib.hid KW
  have HRR := Lib.hid R
  clear KW R
  go_wp2_with fail
  go_region_with (go_at_call 42; refine (HKW.out _ (sm.below (Below.refl _ _).drew sm.1) z1 hu HRR.out.drew).mono ?_; intro e w9 hS; rw [HX.out] at hS; obtain ⟨z, rfl⟩ := hS.num; have HS := Lib.hid (StepP.after (V := World.drew _) ((HI30.out.bel.mono (show B ≤ W.heap.size from by omega)).drew) (Kp.below HI30.out.bel.drew) hS); clear hS)
  all_goals
    go_wp2_with fail
    go_returns
    exact HS.out

set_option maxRecDepth 100000 in
set_option maxHeartbeats 8000000 in
theorem ins_ab_len (q g c cu : Nat) (s : Asm) (A U : Option Addr) (n op : Int) (W : World) (B k : Nat) (hB : B ≤ q) (h : Rs q g s A c U cu W) (hA : shA op = true) (hBB : shB op = true) (hC : shC op = 0) (L : Option Addr) (m : Nat) (hm : m ≠ 2) (X : Option Asm) (hX : X = none) :
    Calls Tryz.prog 22 #[.pointer (some ⟨q, 0, none⟩), .int .i64 n, .int .i64 op, .slice L m k] W (StepP B q g X W) := by
  have hq := h.m.lt
  have KPa := Lib.hid (parts_at op W true true 0 hA hBB hC)
  have HR := Lib.hid h
  clear h hA hBB hC
  have hmq : ((m : Int) != 2) = true := by rw [bne_iff_ne]; omega
  clear hm
  have HX := Lib.hid hX
  clear hX
  go_enter Tryz.func22, Tryz.ntmps22
  go_wp2_with fail
  refine KPa.out.mono ?_
  rintro e w1 ⟨rfl, hb1⟩
  have I1 : Iz W w1.heap.size #[.int .i64 op, .int .i64 0, .int .i64 0, .int .i64 0] (w1.alloc (.cells #[.int .i64 op, .int .i64 0, .int .i64 0, .int .i64 0] 70)) := ⟨Blk.new w1 _ _, hb1.alloc hb1.size _, hb1.size⟩
  have hs1 : (w1.alloc (.cells #[.int .i64 op, .int .i64 0, .int .i64 0, .int .i64 0] 70)).heap.size = w1.heap.size + 1 := by simp
  clear hb1
  have own0 : (w1.alloc (.cells #[.int .i64 op, .int .i64 0, .int .i64 0, .int .i64 0] 70)).ownsRow (w1.heap.size + 1) 91 1 (.slice none 0 0) 0 [] := World.ownsRow_nil _ _ _ _
  have s0 : w1.heap.size + 1 ≤ (w1.alloc (.cells #[.int .i64 op, .int .i64 0, .int .i64 0, .int .i64 0] 70)).heap.size := Nat.le_of_eq hs1.symm
  clear hs1
  have HI1 := Lib.hid I1
  clear I1
  go_wp2_with (first | (at_builtin; refine wpList_append_new rfl _ _ 90 rfl (w1.heap.size + 1) (.pointer none) 1 8 Tryz.underlying90 (by kernel_rfl) rfl (by decide) _ 0 _ rfl own0 1 (by simp only [World.size_alloc]; rfl) rfl (by simp [Value.oneCell']) (by omega) (by omega) s0 ?_; intro v1 u1 own1 hb1 hk1; obtain ⟨r1, d1, rfl, -, hr1, -⟩ := own_form own1 (by decide); replace own1 : u1.ownsRow (w1.heap.size + 1) 91 1 (.slice (some ⟨r1, 0, none⟩) 1 d1) 1 [.pointer (some ⟨w1.heap.size, 1, none⟩)] := own1; have HI2 := Lib.hid (HI1.out.below hb1 (Nat.lt_succ_self _)); have s1 : w1.heap.size + 1 ≤ u1.heap.size := Nat.le_trans s0 hb1.size; clear hk1 hb1 own0) | (at_builtin; refine wpList_append_new rfl _ _ 90 rfl (w1.heap.size + 1) (.pointer none) 1 8 Tryz.underlying90 (by kernel_rfl) rfl (by decide) _ 1 _ rfl own1 1 rfl rfl (by simp [Value.oneCell']) (by omega) (by omega) s1 ?_; intro v2 u2 own2 hb2 hk2; obtain ⟨r2, d2, rfl, -, hr2, -⟩ := own_form own2 (by decide); replace own2 : u2.ownsRow (w1.heap.size + 1) 91 1 (.slice (some ⟨r2, 0, none⟩) 2 d2) 2 [.pointer (some ⟨w1.heap.size, 1, none⟩), .pointer (some ⟨w1.heap.size, 2, none⟩)] := own2; have HI3 := Lib.hid (HI2.out.below hb2 (Nat.lt_succ_self _)); have s2 : w1.heap.size + 1 ≤ u2.heap.size := Nat.le_trans s1 hb2.size; clear hk2 hb2 own1))
  go_returns
  exact StepP.bad HX.out 1 (by decide) (HI3.out.bel.mono (by omega)) (Kp.below HI3.out.bel)

set_option maxRecDepth 100000 in
set_option maxHeartbeats 8000000 in
theorem ins_ab_0 (q g c cu : Nat) (s : Asm) (A U : Option Addr) (n op : Int) (W : World) (B k : Nat) (hB : B ≤ q) (h : Rs q g s A c U cu W) (hA : shA op = true) (hBB : shB op = true) (hC : shC op = 0) (x0 x1 : ByteArray) (X : Option Asm)
    (hT : Small W) (b off : Nat) (hb : b < W.heap.size) (c0 : W.cell? ⟨b, off, none⟩ = some (.string x0)) (z0 : x0.size ≤ 1000000) (_c1 : W.cell? ⟨b, off + 1, none⟩ = some (.string x1)) (_z1 : x1.size ≤ 1000000)
    (k0 : Int) (n0 : Nat) (g0 : Bool) (o0 : opndX x0.data.toList = (k0, n0, g0)) (w0 : k0 ≠ 1)
    (hX : X = none) :
    Calls Tryz.prog 22 #[.pointer (some ⟨q, 0, none⟩), .int .i64 n, .int .i64 op, .slice (some ⟨b, off, none⟩) 2 k] W (StepP B q g X W) := by
  have hq := h.m.lt
  have KPa := Lib.hid (parts_at op W true true 0 hA hBB hC)
  have HR := Lib.hid h
  clear h hA hBB hC
  have KO0 := Lib.hid (opnd_at o0 z0)
  have wq : (k0 != 1) = true := by rw [bne_iff_ne]; exact w0
  clear w0
  clear o0
  have HX := Lib.hid hX
  clear hX
  go_enter Tryz.func22, Tryz.ntmps22
  go_wp2_with fail
  refine KPa.out.mono ?_
  rintro e w1 ⟨rfl, hb1⟩
  have I1 : Iz W w1.heap.size #[.int .i64 op, .int .i64 0, .int .i64 0, .int .i64 0] (w1.alloc (.cells #[.int .i64 op, .int .i64 0, .int .i64 0, .int .i64 0] 70)) := ⟨Blk.new w1 _ _, hb1.alloc hb1.size _, hb1.size⟩
  have hs1 : (w1.alloc (.cells #[.int .i64 op, .int .i64 0, .int .i64 0, .int .i64 0] 70)).heap.size = w1.heap.size + 1 := by simp
  clear hb1
  have own0 : (w1.alloc (.cells #[.int .i64 op, .int .i64 0, .int .i64 0, .int .i64 0] 70)).ownsRow (w1.heap.size + 1) 91 1 (.slice none 0 0) 0 [] := World.ownsRow_nil _ _ _ _
  have s0 : w1.heap.size + 1 ≤ (w1.alloc (.cells #[.int .i64 op, .int .i64 0, .int .i64 0, .int .i64 0] 70)).heap.size := Nat.le_of_eq hs1.symm
  clear hs1
  have HI1 := Lib.hid I1
  clear I1
  go_wp2_with (first | (at_builtin; refine wpList_append_new rfl _ _ 90 rfl (w1.heap.size + 1) (.pointer none) 1 8 Tryz.underlying90 (by kernel_rfl) rfl (by decide) _ 0 _ rfl own0 1 (by simp only [World.size_alloc]; rfl) rfl (by simp [Value.oneCell']) (by omega) (by omega) s0 ?_; intro v1 u1 own1 hb1 hk1; obtain ⟨r1, d1, rfl, -, hr1, -⟩ := own_form own1 (by decide); replace own1 : u1.ownsRow (w1.heap.size + 1) 91 1 (.slice (some ⟨r1, 0, none⟩) 1 d1) 1 [.pointer (some ⟨w1.heap.size, 1, none⟩)] := own1; have HI2 := Lib.hid (HI1.out.below hb1 (Nat.lt_succ_self _)); have s1 : w1.heap.size + 1 ≤ u1.heap.size := Nat.le_trans s0 hb1.size; clear hk1 hb1 own0) | (at_builtin; refine wpList_append_new rfl _ _ 90 rfl (w1.heap.size + 1) (.pointer none) 1 8 Tryz.underlying90 (by kernel_rfl) rfl (by decide) _ 1 _ rfl own1 1 rfl rfl (by simp [Value.oneCell']) (by omega) (by omega) s1 ?_; intro v2 u2 own2 hb2 hk2; obtain ⟨r2, d2, rfl, -, hr2, -⟩ := own_form own2 (by decide); replace own2 : u2.ownsRow (w1.heap.size + 1) 91 1 (.slice (some ⟨r2, 0, none⟩) 2 d2) 2 [.pointer (some ⟨w1.heap.size, 1, none⟩), .pointer (some ⟨w1.heap.size, 2, none⟩)] := own2; have HI3 := Lib.hid (HI2.out.below hb2 (Nat.lt_succ_self _)); have s2 : w1.heap.size + 1 ≤ u2.heap.size := Nat.le_trans s1 hb2.size; clear hk2 hb2 own1))
  refine wp_loop_rounds 1 ?_
  have bl0 := HI3.out.bel
  have rp0 := own_cell own2 (k := 0) (u := .pointer (some ⟨w1.heap.size, 1, none⟩)) rfl
  have ca0 := (bl0.cell (p := ⟨b, off, none⟩) hb).trans c0
  have sm0 := hT.below bl0 hT.1
  clear bl0
  rw [rounds_succ]
  go_wp2_with fail
  refine (KO0.out _ sm0).mono ?_
  rintro e y0 ⟨rfl, by0⟩
  have bc := fun o => (HI3.out.bel.trans (by0.mono HI3.out.bel.size)).alloc (HI3.out.bel.trans (by0.mono HI3.out.bel.size)).size o
  clear by0 sm0 rp0 ca0
  go_wp2_with fail
  go_returns
  exact StepP.bad HX.out 1 (by decide) ((bc _).mono (by omega)) (Kp.below (bc _))

set_option maxRecDepth 100000 in
set_option maxHeartbeats 8000000 in
theorem ins_ab_1 (q g c cu : Nat) (s : Asm) (A U : Option Addr) (n op : Int) (W : World) (B k : Nat) (hB : B ≤ q) (h : Rs q g s A c U cu W) (hA : shA op = true) (hBB : shB op = true) (hC : shC op = 0) (x0 x1 : ByteArray) (X : Option Asm)
    (hT : Small W) (b off : Nat) (hb : b < W.heap.size) (c0 : W.cell? ⟨b, off, none⟩ = some (.string x0)) (z0 : x0.size ≤ 1000000) (c1 : W.cell? ⟨b, off + 1, none⟩ = some (.string x1)) (z1 : x1.size ≤ 1000000)
    (n0 : Nat) (g0 : Bool) (o0 : opndX x0.data.toList = (1, n0, g0))
    (k1 : Int) (n1 : Nat) (g1 : Bool) (o1 : opndX x1.data.toList = (k1, n1, g1)) (w1 : k1 ≠ 1)
    (hX : X = none) :
    Calls Tryz.prog 22 #[.pointer (some ⟨q, 0, none⟩), .int .i64 n, .int .i64 op, .slice (some ⟨b, off, none⟩) 2 k] W (StepP B q g X W) := by
  have hq := h.m.lt
  have KPa := Lib.hid (parts_at op W true true 0 hA hBB hC)
  have HR := Lib.hid h
  clear h hA hBB hC
  have KO0 := Lib.hid (opnd_at o0 z0)
  have l0 : n0 < 4294967296 := by have h := opnd_lt x0.data.toList; rw [o0] at h; exact h
  have wr0 := int_conv n0 l0
  have p0 : (0 : Int) ≤ n0 := by omega
  clear o0
  have KO1 := Lib.hid (opnd_at o1 z1)
  have wq : (k1 != 1) = true := by rw [bne_iff_ne]; exact w1
  clear w1
  clear o1
  have HX := Lib.hid hX
  clear hX
  go_enter Tryz.func22, Tryz.ntmps22
  go_wp2_with fail
  refine KPa.out.mono ?_
  rintro e w1 ⟨rfl, hb1⟩
  have I1 : Iz W w1.heap.size #[.int .i64 op, .int .i64 0, .int .i64 0, .int .i64 0] (w1.alloc (.cells #[.int .i64 op, .int .i64 0, .int .i64 0, .int .i64 0] 70)) := ⟨Blk.new w1 _ _, hb1.alloc hb1.size _, hb1.size⟩
  have hs1 : (w1.alloc (.cells #[.int .i64 op, .int .i64 0, .int .i64 0, .int .i64 0] 70)).heap.size = w1.heap.size + 1 := by simp
  clear hb1
  have own0 : (w1.alloc (.cells #[.int .i64 op, .int .i64 0, .int .i64 0, .int .i64 0] 70)).ownsRow (w1.heap.size + 1) 91 1 (.slice none 0 0) 0 [] := World.ownsRow_nil _ _ _ _
  have s0 : w1.heap.size + 1 ≤ (w1.alloc (.cells #[.int .i64 op, .int .i64 0, .int .i64 0, .int .i64 0] 70)).heap.size := Nat.le_of_eq hs1.symm
  clear hs1
  have HI1 := Lib.hid I1
  clear I1
  go_wp2_with (first | (at_builtin; refine wpList_append_new rfl _ _ 90 rfl (w1.heap.size + 1) (.pointer none) 1 8 Tryz.underlying90 (by kernel_rfl) rfl (by decide) _ 0 _ rfl own0 1 (by simp only [World.size_alloc]; rfl) rfl (by simp [Value.oneCell']) (by omega) (by omega) s0 ?_; intro v1 u1 own1 hb1 hk1; obtain ⟨r1, d1, rfl, -, hr1, -⟩ := own_form own1 (by decide); replace own1 : u1.ownsRow (w1.heap.size + 1) 91 1 (.slice (some ⟨r1, 0, none⟩) 1 d1) 1 [.pointer (some ⟨w1.heap.size, 1, none⟩)] := own1; have HI2 := Lib.hid (HI1.out.below hb1 (Nat.lt_succ_self _)); have s1 : w1.heap.size + 1 ≤ u1.heap.size := Nat.le_trans s0 hb1.size; clear hk1 hb1 own0) | (at_builtin; refine wpList_append_new rfl _ _ 90 rfl (w1.heap.size + 1) (.pointer none) 1 8 Tryz.underlying90 (by kernel_rfl) rfl (by decide) _ 1 _ rfl own1 1 rfl rfl (by simp [Value.oneCell']) (by omega) (by omega) s1 ?_; intro v2 u2 own2 hb2 hk2; obtain ⟨r2, d2, rfl, -, hr2, -⟩ := own_form own2 (by decide); replace own2 : u2.ownsRow (w1.heap.size + 1) 91 1 (.slice (some ⟨r2, 0, none⟩) 2 d2) 2 [.pointer (some ⟨w1.heap.size, 1, none⟩), .pointer (some ⟨w1.heap.size, 2, none⟩)] := own2; have HI3 := Lib.hid (HI2.out.below hb2 (Nat.lt_succ_self _)); have s2 : w1.heap.size + 1 ≤ u2.heap.size := Nat.le_trans s1 hb2.size; clear hk2 hb2 own1))
  refine wp_loop_rounds 2 ?_
  have bl0 := HI3.out.bel
  have rp0 := own_cell own2 (k := 0) (u := .pointer (some ⟨w1.heap.size, 1, none⟩)) rfl
  have ca0 := (bl0.cell (p := ⟨b, off, none⟩) hb).trans c0
  have sm0 := hT.below bl0 hT.1
  clear bl0
  rw [rounds_succ]
  go_wp2_with fail
  refine (KO0.out _ sm0).mono ?_
  rintro e y0 ⟨rfl, by0⟩
  have J0 := HI3.out.below by0 HI3.out.i.lt
  have jc := J0.i.cell 1
  have jf := J0.i.frozen 1
  have jl := J0.i.lt
  have ow := own_round (k := 1) (u := .int .i64 (n0 : Nat)) (o := .cells #[.int .i64 1, .int .u32 (n0 : Nat), .bool g0] 81) own2 by0 J0.i
  have HJ := Lib.hid (J0.set 1 (.int .i64 (n0 : Nat)) (.cells #[.int .i64 1, .int .u32 (n0 : Nat), .bool g0] 81))
  have HOW := Lib.hid ow
  clear by0 sm0 rp0 ca0 J0 ow own2
  go_wp2_with fail
  have hj := HJ.out
  have ho := HOW.out
  clear jc jf jl HJ HOW
  generalize World.alloc (World.setCell _ _ _) _ = V0 at hj ho ⊢
  have HI30 := Lib.hid hj
  have own30 := ho
  clear hj ho
  have bl1 := HI30.out.bel
  have rp1 := own_cell own30 (k := 1) (u := .pointer (some ⟨w1.heap.size, 2, none⟩)) rfl
  have ca1 := (bl1.cell (p := ⟨b, off + 1, none⟩) hb).trans c1
  have sm1 := hT.below bl1 hT.1
  clear bl1
  rw [rounds_succ]
  go_wp2_with fail
  refine (KO1.out _ sm1).mono ?_
  rintro e y1 ⟨rfl, by1⟩
  have bc := fun o => (HI30.out.bel.trans (by1.mono HI30.out.bel.size)).alloc (HI30.out.bel.trans (by1.mono HI30.out.bel.size)).size o
  clear by1 sm1 rp1 ca1
  go_wp2_with fail
  go_returns
  exact StepP.bad HX.out 1 (by decide) ((bc _).mono (by omega)) (Kp.below (bc _))

set_option maxRecDepth 100000 in
set_option maxHeartbeats 8000000 in
theorem ins_ab_ok (q g c cu : Nat) (s : Asm) (A U : Option Addr) (n op : Int) (W : World) (B k : Nat) (hB : B ≤ q) (h : Rs q g s A c U cu W) (hA : shA op = true) (hBB : shB op = true) (hC : shC op = 0) (x0 x1 : ByteArray) (X : Option Asm)
    (hT : Small W) (b off : Nat) (hb : b < W.heap.size) (c0 : W.cell? ⟨b, off, none⟩ = some (.string x0)) (z0 : x0.size ≤ 1000000) (c1 : W.cell? ⟨b, off + 1, none⟩ = some (.string x1)) (z1 : x1.size ≤ 1000000)
    (n0 : Nat) (g0 : Bool) (o0 : opndX x0.data.toList = (1, n0, g0))
    (n1 : Nat) (g1 : Bool) (o1 : opndX x1.data.toList = (1, n1, g1))
    (hX : encX s op n0 n1 0 = X) :
    Calls Tryz.prog 22 #[.pointer (some ⟨q, 0, none⟩), .int .i64 n, .int .i64 op, .slice (some ⟨b, off, none⟩) 2 k] W (StepP B q g X W) := by
  have hq := h.m.lt
  have KPa := Lib.hid (parts_at op W true true 0 hA hBB hC)
  have HR := Lib.hid h
  clear h hA hBB hC
  have KO0 := Lib.hid (opnd_at o0 z0)
  have l0 : n0 < 4294967296 := by have h := opnd_lt x0.data.toList; rw [o0] at h; exact h
  have wr0 := int_conv n0 l0
  have p0 : (0 : Int) ≤ n0 := by omega
  clear o0
  have KO1 := Lib.hid (opnd_at o1 z1)
  have l1 : n1 < 4294967296 := by have h := opnd_lt x1.data.toList; rw [o1] at h; exact h
  have wr1 := int_conv n1 l1
  have p1 : (0 : Int) ≤ n1 := by omega
  clear o1
  have HX := Lib.hid hX
  clear hX
  go_enter Tryz.func22, Tryz.ntmps22
  go_wp2_with fail
  refine KPa.out.mono ?_
  rintro e w1 ⟨rfl, hb1⟩
  have I1 : Iz W w1.heap.size #[.int .i64 op, .int .i64 0, .int .i64 0, .int .i64 0] (w1.alloc (.cells #[.int .i64 op, .int .i64 0, .int .i64 0, .int .i64 0] 70)) := ⟨Blk.new w1 _ _, hb1.alloc hb1.size _, hb1.size⟩
  have hs1 : (w1.alloc (.cells #[.int .i64 op, .int .i64 0, .int .i64 0, .int .i64 0] 70)).heap.size = w1.heap.size + 1 := by simp
  clear hb1
  have own0 : (w1.alloc (.cells #[.int .i64 op, .int .i64 0, .int .i64 0, .int .i64 0] 70)).ownsRow (w1.heap.size + 1) 91 1 (.slice none 0 0) 0 [] := World.ownsRow_nil _ _ _ _
  have s0 : w1.heap.size + 1 ≤ (w1.alloc (.cells #[.int .i64 op, .int .i64 0, .int .i64 0, .int .i64 0] 70)).heap.size := Nat.le_of_eq hs1.symm
  clear hs1
  have HI1 := Lib.hid I1
  clear I1
  go_wp2_with (first | (at_builtin; refine wpList_append_new rfl _ _ 90 rfl (w1.heap.size + 1) (.pointer none) 1 8 Tryz.underlying90 (by kernel_rfl) rfl (by decide) _ 0 _ rfl own0 1 (by simp only [World.size_alloc]; rfl) rfl (by simp [Value.oneCell']) (by omega) (by omega) s0 ?_; intro v1 u1 own1 hb1 hk1; obtain ⟨r1, d1, rfl, -, hr1, -⟩ := own_form own1 (by decide); replace own1 : u1.ownsRow (w1.heap.size + 1) 91 1 (.slice (some ⟨r1, 0, none⟩) 1 d1) 1 [.pointer (some ⟨w1.heap.size, 1, none⟩)] := own1; have HI2 := Lib.hid (HI1.out.below hb1 (Nat.lt_succ_self _)); have s1 : w1.heap.size + 1 ≤ u1.heap.size := Nat.le_trans s0 hb1.size; clear hk1 hb1 own0) | (at_builtin; refine wpList_append_new rfl _ _ 90 rfl (w1.heap.size + 1) (.pointer none) 1 8 Tryz.underlying90 (by kernel_rfl) rfl (by decide) _ 1 _ rfl own1 1 rfl rfl (by simp [Value.oneCell']) (by omega) (by omega) s1 ?_; intro v2 u2 own2 hb2 hk2; obtain ⟨r2, d2, rfl, -, hr2, -⟩ := own_form own2 (by decide); replace own2 : u2.ownsRow (w1.heap.size + 1) 91 1 (.slice (some ⟨r2, 0, none⟩) 2 d2) 2 [.pointer (some ⟨w1.heap.size, 1, none⟩), .pointer (some ⟨w1.heap.size, 2, none⟩)] := own2; have HI3 := Lib.hid (HI2.out.below hb2 (Nat.lt_succ_self _)); have s2 : w1.heap.size + 1 ≤ u2.heap.size := Nat.le_trans s1 hb2.size; clear hk2 hb2 own1))
  refine wp_loop_rounds 3 ?_
  have bl0 := HI3.out.bel
  have rp0 := own_cell own2 (k := 0) (u := .pointer (some ⟨w1.heap.size, 1, none⟩)) rfl
  have ca0 := (bl0.cell (p := ⟨b, off, none⟩) hb).trans c0
  have sm0 := hT.below bl0 hT.1
  clear bl0
  rw [rounds_succ]
  go_wp2_with fail
  refine (KO0.out _ sm0).mono ?_
  rintro e y0 ⟨rfl, by0⟩
  have J0 := HI3.out.below by0 HI3.out.i.lt
  have jc := J0.i.cell 1
  have jf := J0.i.frozen 1
  have jl := J0.i.lt
  have ow := own_round (k := 1) (u := .int .i64 (n0 : Nat)) (o := .cells #[.int .i64 1, .int .u32 (n0 : Nat), .bool g0] 81) own2 by0 J0.i
  have HJ := Lib.hid (J0.set 1 (.int .i64 (n0 : Nat)) (.cells #[.int .i64 1, .int .u32 (n0 : Nat), .bool g0] 81))
  have HOW := Lib.hid ow
  clear by0 sm0 rp0 ca0 J0 ow own2
  go_wp2_with fail
  have hj := HJ.out
  have ho := HOW.out
  clear jc jf jl HJ HOW
  generalize World.alloc (World.setCell _ _ _) _ = V0 at hj ho ⊢
  have HI30 := Lib.hid hj
  have own30 := ho
  clear hj ho
  have bl1 := HI30.out.bel
  have rp1 := own_cell own30 (k := 1) (u := .pointer (some ⟨w1.heap.size, 2, none⟩)) rfl
  have ca1 := (bl1.cell (p := ⟨b, off + 1, none⟩) hb).trans c1
  have sm1 := hT.below bl1 hT.1
  clear bl1
  rw [rounds_succ]
  go_wp2_with fail
  refine (KO1.out _ sm1).mono ?_
  rintro e y1 ⟨rfl, by1⟩
  have J1 := HI30.out.below by1 HI30.out.i.lt
  have jc := J1.i.cell 2
  have jf := J1.i.frozen 2
  have jl := J1.i.lt
  have ow := own_round (k := 2) (u := .int .i64 (n1 : Nat)) (o := .cells #[.int .i64 1, .int .u32 (n1 : Nat), .bool g1] 81) own30 by1 J1.i
  have HJ := Lib.hid (J1.set 2 (.int .i64 (n1 : Nat)) (.cells #[.int .i64 1, .int .u32 (n1 : Nat), .bool g1] 81))
  have HOW := Lib.hid ow
  clear by1 sm1 rp1 ca1 J1 ow own30
  go_wp2_with fail
  have hj := HJ.out
  have ho := HOW.out
  clear jc jf jl HJ HOW
  generalize World.alloc (World.setCell _ _ _) _ = V1 at hj ho ⊢
  have HI31 := Lib.hid hj
  have own31 := ho
  clear hj ho
  rw [rounds_succ]
  have E0 := HI31.out.i.cell 0
  have E1 := HI31.out.i.cell 1
  have E2 := HI31.out.i.cell 2
  have E3 := HI31.out.i.cell 3
  have R := HR.out.below rfl HI31.out.bel
  have KW := fun W2 => asm_encode q g c cu s A U op (n0 : Nat) (n1 : Nat) 0 W2 B hB
  have HKW := Lib.hid KW
  have HRR := Lib.hid R
  clear KW R
  go_wp2_with fail
  refine (HKW.out _ HRR.out).mono ?_
  intro e w9 hS
  rw [HX.out] at hS
  obtain ⟨z, rfl⟩ := hS.num
  have HS := Lib.hid (StepP.after (HI31.out.bel.mono (show B ≤ W.heap.size from by omega)) (Kp.below HI31.out.bel) hS)
  clear hS
  go_wp2_with fail
  go_returns
  exact HS.out

set_option maxRecDepth 100000 in
set_option maxHeartbeats 8000000 in
theorem ins_abr_len (q g c cu : Nat) (s : Asm) (A U : Option Addr) (n op : Int) (W : World) (B k : Nat) (hB : B ≤ q) (h : Rs q g s A c U cu W) (hA : shA op = true) (hBB : shB op = true) (hC : shC op = 2) (L : Option Addr) (m : Nat) (hm : m ≠ 3) (X : Option Asm) (hX : X = none) :
    Calls Tryz.prog 22 #[.pointer (some ⟨q, 0, none⟩), .int .i64 n, .int .i64 op, .slice L m k] W (StepP B q g X W) := by
  have hq := h.m.lt
  have KPa := Lib.hid (parts_at op W true true 2 hA hBB hC)
  have HR := Lib.hid h
  clear h hA hBB hC
  have hmq : ((m : Int) != 3) = true := by rw [bne_iff_ne]; omega
  clear hm
  have HX := Lib.hid hX
  clear hX
  go_enter Tryz.func22, Tryz.ntmps22
  go_wp2_with fail
  refine KPa.out.mono ?_
  rintro e w1 ⟨rfl, hb1⟩
  have I1 : Iz W w1.heap.size #[.int .i64 op, .int .i64 0, .int .i64 0, .int .i64 0] (w1.alloc (.cells #[.int .i64 op, .int .i64 0, .int .i64 0, .int .i64 0] 70)) := ⟨Blk.new w1 _ _, hb1.alloc hb1.size _, hb1.size⟩
  have hs1 : (w1.alloc (.cells #[.int .i64 op, .int .i64 0, .int .i64 0, .int .i64 0] 70)).heap.size = w1.heap.size + 1 := by simp
  clear hb1
  have own0 : (w1.alloc (.cells #[.int .i64 op, .int .i64 0, .int .i64 0, .int .i64 0] 70)).ownsRow (w1.heap.size + 1) 91 1 (.slice none 0 0) 0 [] := World.ownsRow_nil _ _ _ _
  have s0 : w1.heap.size + 1 ≤ (w1.alloc (.cells #[.int .i64 op, .int .i64 0, .int .i64 0, .int .i64 0] 70)).heap.size := Nat.le_of_eq hs1.symm
  clear hs1
  have HI1 := Lib.hid I1
  clear I1
  go_wp2_with (first | (at_builtin; refine wpList_append_new rfl _ _ 90 rfl (w1.heap.size + 1) (.pointer none) 1 8 Tryz.underlying90 (by kernel_rfl) rfl (by decide) _ 0 _ rfl own0 1 (by simp only [World.size_alloc]; rfl) rfl (by simp [Value.oneCell']) (by omega) (by omega) s0 ?_; intro v1 u1 own1 hb1 hk1; obtain ⟨r1, d1, rfl, -, hr1, -⟩ := own_form own1 (by decide); replace own1 : u1.ownsRow (w1.heap.size + 1) 91 1 (.slice (some ⟨r1, 0, none⟩) 1 d1) 1 [.pointer (some ⟨w1.heap.size, 1, none⟩)] := own1; have HI2 := Lib.hid (HI1.out.below hb1 (Nat.lt_succ_self _)); have s1 : w1.heap.size + 1 ≤ u1.heap.size := Nat.le_trans s0 hb1.size; clear hk1 hb1 own0) | (at_builtin; refine wpList_append_new rfl _ _ 90 rfl (w1.heap.size + 1) (.pointer none) 1 8 Tryz.underlying90 (by kernel_rfl) rfl (by decide) _ 1 _ rfl own1 1 rfl rfl (by simp [Value.oneCell']) (by omega) (by omega) s1 ?_; intro v2 u2 own2 hb2 hk2; obtain ⟨r2, d2, rfl, -, hr2, -⟩ := own_form own2 (by decide); replace own2 : u2.ownsRow (w1.heap.size + 1) 91 1 (.slice (some ⟨r2, 0, none⟩) 2 d2) 2 [.pointer (some ⟨w1.heap.size, 1, none⟩), .pointer (some ⟨w1.heap.size, 2, none⟩)] := own2; have HI3 := Lib.hid (HI2.out.below hb2 (Nat.lt_succ_self _)); have s2 : w1.heap.size + 1 ≤ u2.heap.size := Nat.le_trans s1 hb2.size; clear hk2 hb2 own1) | (at_builtin; refine wpList_append_new rfl _ _ 90 rfl (w1.heap.size + 1) (.pointer none) 1 8 Tryz.underlying90 (by kernel_rfl) rfl (by decide) _ 2 _ rfl own2 1 rfl rfl (by simp [Value.oneCell']) (by omega) (by omega) s2 ?_; intro v3 u3 own3 hb3 hk3; obtain ⟨r3, d3, rfl, -, hr3, -⟩ := own_form own3 (by decide); replace own3 : u3.ownsRow (w1.heap.size + 1) 91 1 (.slice (some ⟨r3, 0, none⟩) 3 d3) 3 [.pointer (some ⟨w1.heap.size, 1, none⟩), .pointer (some ⟨w1.heap.size, 2, none⟩), .pointer (some ⟨w1.heap.size, 3, none⟩)] := own3; have HI4 := Lib.hid (HI3.out.below hb3 (Nat.lt_succ_self _)); have s3 : w1.heap.size + 1 ≤ u3.heap.size := Nat.le_trans s2 hb3.size; clear hk3 hb3 own2))
  go_returns
  exact StepP.bad HX.out 1 (by decide) (HI4.out.bel.mono (by omega)) (Kp.below HI4.out.bel)

set_option maxRecDepth 100000 in
set_option maxHeartbeats 8000000 in
theorem ins_abr_0 (q g c cu : Nat) (s : Asm) (A U : Option Addr) (n op : Int) (W : World) (B k : Nat) (hB : B ≤ q) (h : Rs q g s A c U cu W) (hA : shA op = true) (hBB : shB op = true) (hC : shC op = 2) (x0 x1 x2 : ByteArray) (X : Option Asm)
    (hT : Small W) (b off : Nat) (hb : b < W.heap.size) (c0 : W.cell? ⟨b, off, none⟩ = some (.string x0)) (z0 : x0.size ≤ 1000000) (_c1 : W.cell? ⟨b, off + 1, none⟩ = some (.string x1)) (_z1 : x1.size ≤ 1000000) (_c2 : W.cell? ⟨b, off + 2, none⟩ = some (.string x2)) (_z2 : x2.size ≤ 1000000)
    (k0 : Int) (n0 : Nat) (g0 : Bool) (o0 : opndX x0.data.toList = (k0, n0, g0)) (w0 : k0 ≠ 1)
    (hX : X = none) :
    Calls Tryz.prog 22 #[.pointer (some ⟨q, 0, none⟩), .int .i64 n, .int .i64 op, .slice (some ⟨b, off, none⟩) 3 k] W (StepP B q g X W) := by
  have hq := h.m.lt
  have KPa := Lib.hid (parts_at op W true true 2 hA hBB hC)
  have HR := Lib.hid h
  clear h hA hBB hC
  have KO0 := Lib.hid (opnd_at o0 z0)
  have wq : (k0 != 1) = true := by rw [bne_iff_ne]; exact w0
  clear w0
  clear o0
  have HX := Lib.hid hX
  clear hX
  go_enter Tryz.func22, Tryz.ntmps22
  go_wp2_with fail
  refine KPa.out.mono ?_
  rintro e w1 ⟨rfl, hb1⟩
  have I1 : Iz W w1.heap.size #[.int .i64 op, .int .i64 0, .int .i64 0, .int .i64 0] (w1.alloc (.cells #[.int .i64 op, .int .i64 0, .int .i64 0, .int .i64 0] 70)) := ⟨Blk.new w1 _ _, hb1.alloc hb1.size _, hb1.size⟩
  have hs1 : (w1.alloc (.cells #[.int .i64 op, .int .i64 0, .int .i64 0, .int .i64 0] 70)).heap.size = w1.heap.size + 1 := by simp
  clear hb1
  have own0 : (w1.alloc (.cells #[.int .i64 op, .int .i64 0, .int .i64 0, .int .i64 0] 70)).ownsRow (w1.heap.size + 1) 91 1 (.slice none 0 0) 0 [] := World.ownsRow_nil _ _ _ _
  have s0 : w1.heap.size + 1 ≤ (w1.alloc (.cells #[.int .i64 op, .int .i64 0, .int .i64 0, .int .i64 0] 70)).heap.size := Nat.le_of_eq hs1.symm
  clear hs1
  have HI1 := Lib.hid I1
  clear I1
  go_wp2_with (first | (at_builtin; refine wpList_append_new rfl _ _ 90 rfl (w1.heap.size + 1) (.pointer none) 1 8 Tryz.underlying90 (by kernel_rfl) rfl (by decide) _ 0 _ rfl own0 1 (by simp only [World.size_alloc]; rfl) rfl (by simp [Value.oneCell']) (by omega) (by omega) s0 ?_; intro v1 u1 own1 hb1 hk1; obtain ⟨r1, d1, rfl, -, hr1, -⟩ := own_form own1 (by decide); replace own1 : u1.ownsRow (w1.heap.size + 1) 91 1 (.slice (some ⟨r1, 0, none⟩) 1 d1) 1 [.pointer (some ⟨w1.heap.size, 1, none⟩)] := own1; have HI2 := Lib.hid (HI1.out.below hb1 (Nat.lt_succ_self _)); have s1 : w1.heap.size + 1 ≤ u1.heap.size := Nat.le_trans s0 hb1.size; clear hk1 hb1 own0) | (at_builtin; refine wpList_append_new rfl _ _ 90 rfl (w1.heap.size + 1) (.pointer none) 1 8 Tryz.underlying90 (by kernel_rfl) rfl (by decide) _ 1 _ rfl own1 1 rfl rfl (by simp [Value.oneCell']) (by omega) (by omega) s1 ?_; intro v2 u2 own2 hb2 hk2; obtain ⟨r2, d2, rfl, -, hr2, -⟩ := own_form own2 (by decide); replace own2 : u2.ownsRow (w1.heap.size + 1) 91 1 (.slice (some ⟨r2, 0, none⟩) 2 d2) 2 [.pointer (some ⟨w1.heap.size, 1, none⟩), .pointer (some ⟨w1.heap.size, 2, none⟩)] := own2; have HI3 := Lib.hid (HI2.out.below hb2 (Nat.lt_succ_self _)); have s2 : w1.heap.size + 1 ≤ u2.heap.size := Nat.le_trans s1 hb2.size; clear hk2 hb2 own1) | (at_builtin; refine wpList_append_new rfl _ _ 90 rfl (w1.heap.size + 1) (.pointer none) 1 8 Tryz.underlying90 (by kernel_rfl) rfl (by decide) _ 2 _ rfl own2 1 rfl rfl (by simp [Value.oneCell']) (by omega) (by omega) s2 ?_; intro v3 u3 own3 hb3 hk3; obtain ⟨r3, d3, rfl, -, hr3, -⟩ := own_form own3 (by decide); replace own3 : u3.ownsRow (w1.heap.size + 1) 91 1 (.slice (some ⟨r3, 0, none⟩) 3 d3) 3 [.pointer (some ⟨w1.heap.size, 1, none⟩), .pointer (some ⟨w1.heap.size, 2, none⟩), .pointer (some ⟨w1.heap.size, 3, none⟩)] := own3; have HI4 := Lib.hid (HI3.out.below hb3 (Nat.lt_succ_self _)); have s3 : w1.heap.size + 1 ≤ u3.heap.size := Nat.le_trans s2 hb3.size; clear hk3 hb3 own2))
  refine wp_loop_rounds 1 ?_
  have bl0 := HI4.out.bel
  have rp0 := own_cell own3 (k := 0) (u := .pointer (some ⟨w1.heap.size, 1, none⟩)) rfl
  have ca0 := (bl0.cell (p := ⟨b, off, none⟩) hb).trans c0
  have sm0 := hT.below bl0 hT.1
  clear bl0
  rw [rounds_succ]
  go_wp2_with fail
  refine (KO0.out _ sm0).mono ?_
  rintro e y0 ⟨rfl, by0⟩
  have bc := fun o => (HI4.out.bel.trans (by0.mono HI4.out.bel.size)).alloc (HI4.out.bel.trans (by0.mono HI4.out.bel.size)).size o
  clear by0 sm0 rp0 ca0
  go_wp2_with fail
  go_returns
  exact StepP.bad HX.out 1 (by decide) ((bc _).mono (by omega)) (Kp.below (bc _))

set_option maxRecDepth 100000 in
set_option maxHeartbeats 8000000 in
theorem ins_abr_1 (q g c cu : Nat) (s : Asm) (A U : Option Addr) (n op : Int) (W : World) (B k : Nat) (hB : B ≤ q) (h : Rs q g s A c U cu W) (hA : shA op = true) (hBB : shB op = true) (hC : shC op = 2) (x0 x1 x2 : ByteArray) (X : Option Asm)
    (hT : Small W) (b off : Nat) (hb : b < W.heap.size) (c0 : W.cell? ⟨b, off, none⟩ = some (.string x0)) (z0 : x0.size ≤ 1000000) (c1 : W.cell? ⟨b, off + 1, none⟩ = some (.string x1)) (z1 : x1.size ≤ 1000000) (_c2 : W.cell? ⟨b, off + 2, none⟩ = some (.string x2)) (_z2 : x2.size ≤ 1000000)
    (n0 : Nat) (g0 : Bool) (o0 : opndX x0.data.toList = (1, n0, g0))
    (k1 : Int) (n1 : Nat) (g1 : Bool) (o1 : opndX x1.data.toList = (k1, n1, g1)) (w1 : k1 ≠ 1)
    (hX : X = none) :
    Calls Tryz.prog 22 #[.pointer (some ⟨q, 0, none⟩), .int .i64 n, .int .i64 op, .slice (some ⟨b, off, none⟩) 3 k] W (StepP B q g X W) := by
  have hq := h.m.lt
  have KPa := Lib.hid (parts_at op W true true 2 hA hBB hC)
  have HR := Lib.hid h
  clear h hA hBB hC
  have KO0 := Lib.hid (opnd_at o0 z0)
  have l0 : n0 < 4294967296 := by have h := opnd_lt x0.data.toList; rw [o0] at h; exact h
  have wr0 := int_conv n0 l0
  have p0 : (0 : Int) ≤ n0 := by omega
  clear o0
  have KO1 := Lib.hid (opnd_at o1 z1)
  have wq : (k1 != 1) = true := by rw [bne_iff_ne]; exact w1
  clear w1
  clear o1
  have HX := Lib.hid hX
  clear hX
  go_enter Tryz.func22, Tryz.ntmps22
  go_wp2_with fail
  refine KPa.out.mono ?_
  rintro e w1 ⟨rfl, hb1⟩
  have I1 : Iz W w1.heap.size #[.int .i64 op, .int .i64 0, .int .i64 0, .int .i64 0] (w1.alloc (.cells #[.int .i64 op, .int .i64 0, .int .i64 0, .int .i64 0] 70)) := ⟨Blk.new w1 _ _, hb1.alloc hb1.size _, hb1.size⟩
  have hs1 : (w1.alloc (.cells #[.int .i64 op, .int .i64 0, .int .i64 0, .int .i64 0] 70)).heap.size = w1.heap.size + 1 := by simp
  clear hb1
  have own0 : (w1.alloc (.cells #[.int .i64 op, .int .i64 0, .int .i64 0, .int .i64 0] 70)).ownsRow (w1.heap.size + 1) 91 1 (.slice none 0 0) 0 [] := World.ownsRow_nil _ _ _ _
  have s0 : w1.heap.size + 1 ≤ (w1.alloc (.cells #[.int .i64 op, .int .i64 0, .int .i64 0, .int .i64 0] 70)).heap.size := Nat.le_of_eq hs1.symm
  clear hs1
  have HI1 := Lib.hid I1
  clear I1
  go_wp2_with (first | (at_builtin; refine wpList_append_new rfl _ _ 90 rfl (w1.heap.size + 1) (.pointer none) 1 8 Tryz.underlying90 (by kernel_rfl) rfl (by decide) _ 0 _ rfl own0 1 (by simp only [World.size_alloc]; rfl) rfl (by simp [Value.oneCell']) (by omega) (by omega) s0 ?_; intro v1 u1 own1 hb1 hk1; obtain ⟨r1, d1, rfl, -, hr1, -⟩ := own_form own1 (by decide); replace own1 : u1.ownsRow (w1.heap.size + 1) 91 1 (.slice (some ⟨r1, 0, none⟩) 1 d1) 1 [.pointer (some ⟨w1.heap.size, 1, none⟩)] := own1; have HI2 := Lib.hid (HI1.out.below hb1 (Nat.lt_succ_self _)); have s1 : w1.heap.size + 1 ≤ u1.heap.size := Nat.le_trans s0 hb1.size; clear hk1 hb1 own0) | (at_builtin; refine wpList_append_new rfl _ _ 90 rfl (w1.heap.size + 1) (.pointer none) 1 8 Tryz.underlying90 (by kernel_rfl) rfl (by decide) _ 1 _ rfl own1 1 rfl rfl (by simp [Value.oneCell']) (by omega) (by omega) s1 ?_; intro v2 u2 own2 hb2 hk2; obtain ⟨r2, d2, rfl, -, hr2, -⟩ := own_form own2 (by decide); replace own2 : u2.ownsRow (w1.heap.size + 1) 91 1 (.slice (some ⟨r2, 0, none⟩) 2 d2) 2 [.pointer (some ⟨w1.heap.size, 1, none⟩), .pointer (some ⟨w1.heap.size, 2, none⟩)] := own2; have HI3 := Lib.hid (HI2.out.below hb2 (Nat.lt_succ_self _)); have s2 : w1.heap.size + 1 ≤ u2.heap.size := Nat.le_trans s1 hb2.size; clear hk2 hb2 own1) | (at_builtin; refine wpList_append_new rfl _ _ 90 rfl (w1.heap.size + 1) (.pointer none) 1 8 Tryz.underlying90 (by kernel_rfl) rfl (by decide) _ 2 _ rfl own2 1 rfl rfl (by simp [Value.oneCell']) (by omega) (by omega) s2 ?_; intro v3 u3 own3 hb3 hk3; obtain ⟨r3, d3, rfl, -, hr3, -⟩ := own_form own3 (by decide); replace own3 : u3.ownsRow (w1.heap.size + 1) 91 1 (.slice (some ⟨r3, 0, none⟩) 3 d3) 3 [.pointer (some ⟨w1.heap.size, 1, none⟩), .pointer (some ⟨w1.heap.size, 2, none⟩), .pointer (some ⟨w1.heap.size, 3, none⟩)] := own3; have HI4 := Lib.hid (HI3.out.below hb3 (Nat.lt_succ_self _)); have s3 : w1.heap.size + 1 ≤ u3.heap.size := Nat.le_trans s2 hb3.size; clear hk3 hb3 own2))
  refine wp_loop_rounds 2 ?_
  have bl0 := HI4.out.bel
  have rp0 := own_cell own3 (k := 0) (u := .pointer (some ⟨w1.heap.size, 1, none⟩)) rfl
  have ca0 := (bl0.cell (p := ⟨b, off, none⟩) hb).trans c0
  have sm0 := hT.below bl0 hT.1
  clear bl0
  rw [rounds_succ]
  go_wp2_with fail
  refine (KO0.out _ sm0).mono ?_
  rintro e y0 ⟨rfl, by0⟩
  have J0 := HI4.out.below by0 HI4.out.i.lt
  have jc := J0.i.cell 1
  have jf := J0.i.frozen 1
  have jl := J0.i.lt
  have ow := own_round (k := 1) (u := .int .i64 (n0 : Nat)) (o := .cells #[.int .i64 1, .int .u32 (n0 : Nat), .bool g0] 81) own3 by0 J0.i
  have HJ := Lib.hid (J0.set 1 (.int .i64 (n0 : Nat)) (.cells #[.int .i64 1, .int .u32 (n0 : Nat), .bool g0] 81))
  have HOW := Lib.hid ow
  clear by0 sm0 rp0 ca0 J0 ow own3
  go_wp2_with fail
  have hj := HJ.out
  have ho := HOW.out
  clear jc jf jl HJ HOW
  generalize World.alloc (World.setCell _ _ _) _ = V0 at hj ho ⊢
  have HI30 := Lib.hid hj
  have own30 := ho
  clear hj ho
  have bl1 := HI30.out.bel
  have rp1 := own_cell own30 (k := 1) (u := .pointer (some ⟨w1.heap.size, 2, none⟩)) rfl
  have ca1 := (bl1.cell (p := ⟨b, off + 1, none⟩) hb).trans c1
  have sm1 := hT.below bl1 hT.1
  clear bl1
  rw [rounds_succ]
  go_wp2_with fail
  refine (KO1.out _ sm1).mono ?_
  rintro e y1 ⟨rfl, by1⟩
  have bc := fun o => (HI30.out.bel.trans (by1.mono HI30.out.bel.size)).alloc (HI30.out.bel.trans (by1.mono HI30.out.bel.size)).size o
  clear by1 sm1 rp1 ca1
  go_wp2_with fail
  go_returns
  exact StepP.bad HX.out 1 (by decide) ((bc _).mono (by omega)) (Kp.below (bc _))

set_option maxRecDepth 100000 in
set_option maxHeartbeats 8000000 in
theorem ins_abr_2 (q g c cu : Nat) (s : Asm) (A U : Option Addr) (n op : Int) (W : World) (B k : Nat) (hB : B ≤ q) (h : Rs q g s A c U cu W) (hA : shA op = true) (hBB : shB op = true) (hC : shC op = 2) (x0 x1 x2 : ByteArray) (X : Option Asm)
    (hT : Small W) (b off : Nat) (hb : b < W.heap.size) (c0 : W.cell? ⟨b, off, none⟩ = some (.string x0)) (z0 : x0.size ≤ 1000000) (c1 : W.cell? ⟨b, off + 1, none⟩ = some (.string x1)) (z1 : x1.size ≤ 1000000) (c2 : W.cell? ⟨b, off + 2, none⟩ = some (.string x2)) (z2 : x2.size ≤ 1000000)
    (n0 : Nat) (g0 : Bool) (o0 : opndX x0.data.toList = (1, n0, g0))
    (n1 : Nat) (g1 : Bool) (o1 : opndX x1.data.toList = (1, n1, g1))
    (k2 : Int) (n2 : Nat) (g2 : Bool) (o2 : opndX x2.data.toList = (k2, n2, g2)) (w2 : k2 ≠ 1)
    (hX : X = none) :
    Calls Tryz.prog 22 #[.pointer (some ⟨q, 0, none⟩), .int .i64 n, .int .i64 op, .slice (some ⟨b, off, none⟩) 3 k] W (StepP B q g X W) := by
  have hq := h.m.lt
  have KPa := Lib.hid (parts_at op W true true 2 hA hBB hC)
  have HR := Lib.hid h
  clear h hA hBB hC
  have KO0 := Lib.hid (opnd_at o0 z0)
  have l0 : n0 < 4294967296 := by have h := opnd_lt x0.data.toList; rw [o0] at h; exact h
  have wr0 := int_conv n0 l0
  have p0 : (0 : Int) ≤ n0 := by omega
  clear o0
  have KO1 := Lib.hid (opnd_at o1 z1)
  have l1 : n1 < 4294967296 := by have h := opnd_lt x1.data.toList; rw [o1] at h; exact h
  have wr1 := int_conv n1 l1
  have p1 : (0 : Int) ≤ n1 := by omega
  clear o1
  have KO2 := Lib.hid (opnd_at o2 z2)
  have wq : (k2 != 1) = true := by rw [bne_iff_ne]; exact w2
  clear w2
  clear o2
  have HX := Lib.hid hX
  clear hX
  go_enter Tryz.func22, Tryz.ntmps22
  go_wp2_with fail
  refine KPa.out.mono ?_
  rintro e w1 ⟨rfl, hb1⟩
  have I1 : Iz W w1.heap.size #[.int .i64 op, .int .i64 0, .int .i64 0, .int .i64 0] (w1.alloc (.cells #[.int .i64 op, .int .i64 0, .int .i64 0, .int .i64 0] 70)) := ⟨Blk.new w1 _ _, hb1.alloc hb1.size _, hb1.size⟩
  have hs1 : (w1.alloc (.cells #[.int .i64 op, .int .i64 0, .int .i64 0, .int .i64 0] 70)).heap.size = w1.heap.size + 1 := by simp
  clear hb1
  have own0 : (w1.alloc (.cells #[.int .i64 op, .int .i64 0, .int .i64 0, .int .i64 0] 70)).ownsRow (w1.heap.size + 1) 91 1 (.slice none 0 0) 0 [] := World.ownsRow_nil _ _ _ _
  have s0 : w1.heap.size + 1 ≤ (w1.alloc (.cells #[.int .i64 op, .int .i64 0, .int .i64 0, .int .i64 0] 70)).heap.size := Nat.le_of_eq hs1.symm
  clear hs1
  have HI1 := Lib.hid I1
  clear I1
  go_wp2_with (first | (at_builtin; refine wpList_append_new rfl _ _ 90 rfl (w1.heap.size + 1) (.pointer none) 1 8 Tryz.underlying90 (by kernel_rfl) rfl (by decide) _ 0 _ rfl own0 1 (by simp only [World.size_alloc]; rfl) rfl (by simp [Value.oneCell']) (by omega) (by omega) s0 ?_; intro v1 u1 own1 hb1 hk1; obtain ⟨r1, d1, rfl, -, hr1, -⟩ := own_form own1 (by decide); replace own1 : u1.ownsRow (w1.heap.size + 1) 91 1 (.slice (some ⟨r1, 0, none⟩) 1 d1) 1 [.pointer (some ⟨w1.heap.size, 1, none⟩)] := own1; have HI2 := Lib.hid (HI1.out.below hb1 (Nat.lt_succ_self _)); have s1 : w1.heap.size + 1 ≤ u1.heap.size := Nat.le_trans s0 hb1.size; clear hk1 hb1 own0) | (at_builtin; refine wpList_append_new rfl _ _ 90 rfl (w1.heap.size + 1) (.pointer none) 1 8 Tryz.underlying90 (by kernel_rfl) rfl (by decide) _ 1 _ rfl own1 1 rfl rfl (by simp [Value.oneCell']) (by omega) (by omega) s1 ?_; intro v2 u2 own2 hb2 hk2; obtain ⟨r2, d2, rfl, -, hr2, -⟩ := own_form own2 (by decide); replace own2 : u2.ownsRow (w1.heap.size + 1) 91 1 (.slice (some ⟨r2, 0, none⟩) 2 d2) 2 [.pointer (some ⟨w1.heap.size, 1, none⟩), .pointer (some ⟨w1.heap.size, 2, none⟩)] := own2; have HI3 := Lib.hid (HI2.out.below hb2 (Nat.lt_succ_self _)); have s2 : w1.heap.size + 1 ≤ u2.heap.size := Nat.le_trans s1 hb2.size; clear hk2 hb2 own1) | (at_builtin; refine wpList_append_new rfl _ _ 90 rfl (w1.heap.size + 1) (.pointer none) 1 8 Tryz.underlying90 (by kernel_rfl) rfl (by decide) _ 2 _ rfl own2 1 rfl rfl (by simp [Value.oneCell']) (by omega) (by omega) s2 ?_; intro v3 u3 own3 hb3 hk3; obtain ⟨r3, d3, rfl, -, hr3, -⟩ := own_form own3 (by decide); replace own3 : u3.ownsRow (w1.heap.size + 1) 91 1 (.slice (some ⟨r3, 0, none⟩) 3 d3) 3 [.pointer (some ⟨w1.heap.size, 1, none⟩), .pointer (some ⟨w1.heap.size, 2, none⟩), .pointer (some ⟨w1.heap.size, 3, none⟩)] := own3; have HI4 := Lib.hid (HI3.out.below hb3 (Nat.lt_succ_self _)); have s3 : w1.heap.size + 1 ≤ u3.heap.size := Nat.le_trans s2 hb3.size; clear hk3 hb3 own2))
  refine wp_loop_rounds 3 ?_
  have bl0 := HI4.out.bel
  have rp0 := own_cell own3 (k := 0) (u := .pointer (some ⟨w1.heap.size, 1, none⟩)) rfl
  have ca0 := (bl0.cell (p := ⟨b, off, none⟩) hb).trans c0
  have sm0 := hT.below bl0 hT.1
  clear bl0
  rw [rounds_succ]
  go_wp2_with fail
  refine (KO0.out _ sm0).mono ?_
  rintro e y0 ⟨rfl, by0⟩
  have J0 := HI4.out.below by0 HI4.out.i.lt
  have jc := J0.i.cell 1
  have jf := J0.i.frozen 1
  have jl := J0.i.lt
  have ow := own_round (k := 1) (u := .int .i64 (n0 : Nat)) (o := .cells #[.int .i64 1, .int .u32 (n0 : Nat), .bool g0] 81) own3 by0 J0.i
  have HJ := Lib.hid (J0.set 1 (.int .i64 (n0 : Nat)) (.cells #[.int .i64 1, .int .u32 (n0 : Nat), .bool g0] 81))
  have HOW := Lib.hid ow
  clear by0 sm0 rp0 ca0 J0 ow own3
  go_wp2_with fail
  have hj := HJ.out
  have ho := HOW.out
  clear jc jf jl HJ HOW
  generalize World.alloc (World.setCell _ _ _) _ = V0 at hj ho ⊢
  have HI30 := Lib.hid hj
  have own30 := ho
  clear hj ho
  have bl1 := HI30.out.bel
  have rp1 := own_cell own30 (k := 1) (u := .pointer (some ⟨w1.heap.size, 2, none⟩)) rfl
  have ca1 := (bl1.cell (p := ⟨b, off + 1, none⟩) hb).trans c1
  have sm1 := hT.below bl1 hT.1
  clear bl1
  rw [rounds_succ]
  go_wp2_with fail
  refine (KO1.out _ sm1).mono ?_
  rintro e y1 ⟨rfl, by1⟩
  have J1 := HI30.out.below by1 HI30.out.i.lt
  have jc := J1.i.cell 2
  have jf := J1.i.frozen 2
  have jl := J1.i.lt
  have ow := own_round (k := 2) (u := .int .i64 (n1 : Nat)) (o := .cells #[.int .i64 1, .int .u32 (n1 : Nat), .bool g1] 81) own30 by1 J1.i
  have HJ := Lib.hid (J1.set 2 (.int .i64 (n1 : Nat)) (.cells #[.int .i64 1, .int .u32 (n1 : Nat), .bool g1] 81))
  have HOW := Lib.hid ow
  clear by1 sm1 rp1 ca1 J1 ow own30
  go_wp2_with fail
  have hj := HJ.out
  have ho := HOW.out
  clear jc jf jl HJ HOW
  generalize World.alloc (World.setCell _ _ _) _ = V1 at hj ho ⊢
  have HI31 := Lib.hid hj
  have own31 := ho
  clear hj ho
  have bl2 := HI31.out.bel
  have rp2 := own_cell own31 (k := 2) (u := .pointer (some ⟨w1.heap.size, 3, none⟩)) rfl
  have ca2 := (bl2.cell (p := ⟨b, off + 2, none⟩) hb).trans c2
  have sm2 := hT.below bl2 hT.1
  clear bl2
  rw [rounds_succ]
  go_wp2_with fail
  refine (KO2.out _ sm2).mono ?_
  rintro e y2 ⟨rfl, by2⟩
  have bc := fun o => (HI31.out.bel.trans (by2.mono HI31.out.bel.size)).alloc (HI31.out.bel.trans (by2.mono HI31.out.bel.size)).size o
  clear by2 sm2 rp2 ca2
  go_wp2_with fail
  go_returns
  exact StepP.bad HX.out 1 (by decide) ((bc _).mono (by omega)) (Kp.below (bc _))

set_option maxRecDepth 100000 in
set_option maxHeartbeats 8000000 in
theorem ins_abr_ok (q g c cu : Nat) (s : Asm) (A U : Option Addr) (n op : Int) (W : World) (B k : Nat) (hB : B ≤ q) (h : Rs q g s A c U cu W) (hA : shA op = true) (hBB : shB op = true) (hC : shC op = 2) (x0 x1 x2 : ByteArray) (X : Option Asm)
    (hT : Small W) (b off : Nat) (hb : b < W.heap.size) (c0 : W.cell? ⟨b, off, none⟩ = some (.string x0)) (z0 : x0.size ≤ 1000000) (c1 : W.cell? ⟨b, off + 1, none⟩ = some (.string x1)) (z1 : x1.size ≤ 1000000) (c2 : W.cell? ⟨b, off + 2, none⟩ = some (.string x2)) (z2 : x2.size ≤ 1000000)
    (n0 : Nat) (g0 : Bool) (o0 : opndX x0.data.toList = (1, n0, g0))
    (n1 : Nat) (g1 : Bool) (o1 : opndX x1.data.toList = (1, n1, g1))
    (n2 : Nat) (g2 : Bool) (o2 : opndX x2.data.toList = (1, n2, g2))
    (hX : encX s op n0 n1 n2 = X) :
    Calls Tryz.prog 22 #[.pointer (some ⟨q, 0, none⟩), .int .i64 n, .int .i64 op, .slice (some ⟨b, off, none⟩) 3 k] W (StepP B q g X W) := by
  have hq := h.m.lt
  have KPa := Lib.hid (parts_at op W true true 2 hA hBB hC)
  have HR := Lib.hid h
  clear h hA hBB hC
  have KO0 := Lib.hid (opnd_at o0 z0)
  have l0 : n0 < 4294967296 := by have h := opnd_lt x0.data.toList; rw [o0] at h; exact h
  have wr0 := int_conv n0 l0
  have p0 : (0 : Int) ≤ n0 := by omega
  clear o0
  have KO1 := Lib.hid (opnd_at o1 z1)
  have l1 : n1 < 4294967296 := by have h := opnd_lt x1.data.toList; rw [o1] at h; exact h
  have wr1 := int_conv n1 l1
  have p1 : (0 : Int) ≤ n1 := by omega
  clear o1
  have KO2 := Lib.hid (opnd_at o2 z2)
  have l2 : n2 < 4294967296 := by have h := opnd_lt x2.data.toList; rw [o2] at h; exact h
  have wr2 := int_conv n2 l2
  have p2 : (0 : Int) ≤ n2 := by omega
  clear o2
  have HX := Lib.hid hX
  clear hX
  go_enter Tryz.func22, Tryz.ntmps22
  go_wp2_with fail
  refine KPa.out.mono ?_
  rintro e w1 ⟨rfl, hb1⟩
  have I1 : Iz W w1.heap.size #[.int .i64 op, .int .i64 0, .int .i64 0, .int .i64 0] (w1.alloc (.cells #[.int .i64 op, .int .i64 0, .int .i64 0, .int .i64 0] 70)) := ⟨Blk.new w1 _ _, hb1.alloc hb1.size _, hb1.size⟩
  have hs1 : (w1.alloc (.cells #[.int .i64 op, .int .i64 0, .int .i64 0, .int .i64 0] 70)).heap.size = w1.heap.size + 1 := by simp
  clear hb1
  have own0 : (w1.alloc (.cells #[.int .i64 op, .int .i64 0, .int .i64 0, .int .i64 0] 70)).ownsRow (w1.heap.size + 1) 91 1 (.slice none 0 0) 0 [] := World.ownsRow_nil _ _ _ _
  have s0 : w1.heap.size + 1 ≤ (w1.alloc (.cells #[.int .i64 op, .int .i64 0, .int .i64 0, .int .i64 0] 70)).heap.size := Nat.le_of_eq hs1.symm
  clear hs1
  have HI1 := Lib.hid I1
  clear I1
  go_wp2_with (first | (at_builtin; refine wpList_append_new rfl _ _ 90 rfl (w1.heap.size + 1) (.pointer none) 1 8 Tryz.underlying90 (by kernel_rfl) rfl (by decide) _ 0 _ rfl own0 1 (by simp only [World.size_alloc]; rfl) rfl (by simp [Value.oneCell']) (by omega) (by omega) s0 ?_; intro v1 u1 own1 hb1 hk1; obtain ⟨r1, d1, rfl, -, hr1, -⟩ := own_form own1 (by decide); replace own1 : u1.ownsRow (w1.heap.size + 1) 91 1 (.slice (some ⟨r1, 0, none⟩) 1 d1) 1 [.pointer (some ⟨w1.heap.size, 1, none⟩)] := own1; have HI2 := Lib.hid (HI1.out.below hb1 (Nat.lt_succ_self _)); have s1 : w1.heap.size + 1 ≤ u1.heap.size := Nat.le_trans s0 hb1.size; clear hk1 hb1 own0) | (at_builtin; refine wpList_append_new rfl _ _ 90 rfl (w1.heap.size + 1) (.pointer none) 1 8 Tryz.underlying90 (by kernel_rfl) rfl (by decide) _ 1 _ rfl own1 1 rfl rfl (by simp [Value.oneCell']) (by omega) (by omega) s1 ?_; intro v2 u2 own2 hb2 hk2; obtain ⟨r2, d2, rfl, -, hr2, -⟩ := own_form own2 (by decide); replace own2 : u2.ownsRow (w1.heap.size + 1) 91 1 (.slice (some ⟨r2, 0, none⟩) 2 d2) 2 [.pointer (some ⟨w1.heap.size, 1, none⟩), .pointer (some ⟨w1.heap.size, 2, none⟩)] := own2; have HI3 := Lib.hid (HI2.out.below hb2 (Nat.lt_succ_self _)); have s2 : w1.heap.size + 1 ≤ u2.heap.size := Nat.le_trans s1 hb2.size; clear hk2 hb2 own1) | (at_builtin; refine wpList_append_new rfl _ _ 90 rfl (w1.heap.size + 1) (.pointer none) 1 8 Tryz.underlying90 (by kernel_rfl) rfl (by decide) _ 2 _ rfl own2 1 rfl rfl (by simp [Value.oneCell']) (by omega) (by omega) s2 ?_; intro v3 u3 own3 hb3 hk3; obtain ⟨r3, d3, rfl, -, hr3, -⟩ := own_form own3 (by decide); replace own3 : u3.ownsRow (w1.heap.size + 1) 91 1 (.slice (some ⟨r3, 0, none⟩) 3 d3) 3 [.pointer (some ⟨w1.heap.size, 1, none⟩), .pointer (some ⟨w1.heap.size, 2, none⟩), .pointer (some ⟨w1.heap.size, 3, none⟩)] := own3; have HI4 := Lib.hid (HI3.out.below hb3 (Nat.lt_succ_self _)); have s3 : w1.heap.size + 1 ≤ u3.heap.size := Nat.le_trans s2 hb3.size; clear hk3 hb3 own2))
  refine wp_loop_rounds 4 ?_
  have bl0 := HI4.out.bel
  have rp0 := own_cell own3 (k := 0) (u := .pointer (some ⟨w1.heap.size, 1, none⟩)) rfl
  have ca0 := (bl0.cell (p := ⟨b, off, none⟩) hb).trans c0
  have sm0 := hT.below bl0 hT.1
  clear bl0
  rw [rounds_succ]
  go_wp2_with fail
  refine (KO0.out _ sm0).mono ?_
  rintro e y0 ⟨rfl, by0⟩
  have J0 := HI4.out.below by0 HI4.out.i.lt
  have jc := J0.i.cell 1
  have jf := J0.i.frozen 1
  have jl := J0.i.lt
  have ow := own_round (k := 1) (u := .int .i64 (n0 : Nat)) (o := .cells #[.int .i64 1, .int .u32 (n0 : Nat), .bool g0] 81) own3 by0 J0.i
  have HJ := Lib.hid (J0.set 1 (.int .i64 (n0 : Nat)) (.cells #[.int .i64 1, .int .u32 (n0 : Nat), .bool g0] 81))
  have HOW := Lib.hid ow
  clear by0 sm0 rp0 ca0 J0 ow own3
  go_wp2_with fail
  have hj := HJ.out
  have ho := HOW.out
  clear jc jf jl HJ HOW
  generalize World.alloc (World.setCell _ _ _) _ = V0 at hj ho ⊢
  have HI30 := Lib.hid hj
  have own30 := ho
  clear hj ho
  have bl1 := HI30.out.bel
  have rp1 := own_cell own30 (k := 1) (u := .pointer (some ⟨w1.heap.size, 2, none⟩)) rfl
  have ca1 := (bl1.cell (p := ⟨b, off + 1, none⟩) hb).trans c1
  have sm1 := hT.below bl1 hT.1
  clear bl1
  rw [rounds_succ]
  go_wp2_with fail
  refine (KO1.out _ sm1).mono ?_
  rintro e y1 ⟨rfl, by1⟩
  have J1 := HI30.out.below by1 HI30.out.i.lt
  have jc := J1.i.cell 2
  have jf := J1.i.frozen 2
  have jl := J1.i.lt
  have ow := own_round (k := 2) (u := .int .i64 (n1 : Nat)) (o := .cells #[.int .i64 1, .int .u32 (n1 : Nat), .bool g1] 81) own30 by1 J1.i
  have HJ := Lib.hid (J1.set 2 (.int .i64 (n1 : Nat)) (.cells #[.int .i64 1, .int .u32 (n1 : Nat), .bool g1] 81))
  have HOW := Lib.hid ow
  clear by1 sm1 rp1 ca1 J1 ow own30
  go_wp2_with fail
  have hj := HJ.out
  have ho := HOW.out
  clear jc jf jl HJ HOW
  generalize World.alloc (World.setCell _ _ _) _ = V1 at hj ho ⊢
  have HI31 := Lib.hid hj
  have own31 := ho
  clear hj ho
  have bl2 := HI31.out.bel
  have rp2 := own_cell own31 (k := 2) (u := .pointer (some ⟨w1.heap.size, 3, none⟩)) rfl
  have ca2 := (bl2.cell (p := ⟨b, off + 2, none⟩) hb).trans c2
  have sm2 := hT.below bl2 hT.1
  clear bl2
  rw [rounds_succ]
  go_wp2_with fail
  refine (KO2.out _ sm2).mono ?_
  rintro e y2 ⟨rfl, by2⟩
  have J2 := HI31.out.below by2 HI31.out.i.lt
  have jc := J2.i.cell 3
  have jf := J2.i.frozen 3
  have jl := J2.i.lt
  have ow := own_round (k := 3) (u := .int .i64 (n2 : Nat)) (o := .cells #[.int .i64 1, .int .u32 (n2 : Nat), .bool g2] 81) own31 by2 J2.i
  have HJ := Lib.hid (J2.set 3 (.int .i64 (n2 : Nat)) (.cells #[.int .i64 1, .int .u32 (n2 : Nat), .bool g2] 81))
  have HOW := Lib.hid ow
  clear by2 sm2 rp2 ca2 J2 ow own31
  go_wp2_with fail
  have hj := HJ.out
  have ho := HOW.out
  clear jc jf jl HJ HOW
  generalize World.alloc (World.setCell _ _ _) _ = V2 at hj ho ⊢
  have HI32 := Lib.hid hj
  have own32 := ho
  clear hj ho
  rw [rounds_succ]
  have E0 := HI32.out.i.cell 0
  have E1 := HI32.out.i.cell 1
  have E2 := HI32.out.i.cell 2
  have E3 := HI32.out.i.cell 3
  have R := HR.out.below rfl HI32.out.bel
  have KW := fun W2 => asm_encode q g c cu s A U op (n0 : Nat) (n1 : Nat) (n2 : Nat) W2 B hB
  have HKW := Lib.hid KW
  have HRR := Lib.hid R
  clear KW R
  go_wp2_with fail
  refine (HKW.out _ HRR.out).mono ?_
  intro e w9 hS
  rw [HX.out] at hS
  obtain ⟨z, rfl⟩ := hS.num
  have HS := Lib.hid (StepP.after (HI32.out.bel.mono (show B ≤ W.heap.size from by omega)) (Kp.below HI32.out.bel) hS)
  clear hS
  go_wp2_with fail
  go_returns
  exact HS.out

set_option maxRecDepth 100000 in
set_option maxHeartbeats 8000000 in
theorem ins_abc_len (q g c cu : Nat) (s : Asm) (A U : Option Addr) (n op : Int) (W : World) (B k : Nat) (hB : B ≤ q) (h : Rs q g s A c U cu W) (hA : shA op = true) (hBB : shB op = true) (hC : shC op = 1) (L : Option Addr) (m : Nat) (hm : m ≠ 3) (X : Option Asm) (hX : X = none) :
    Calls Tryz.prog 22 #[.pointer (some ⟨q, 0, none⟩), .int .i64 n, .int .i64 op, .slice L m k] W (StepP B q g X W) := by
  have hq := h.m.lt
  have KPa := Lib.hid (parts_at op W true true 1 hA hBB hC)
  have HR := Lib.hid h
  clear h hA hBB hC
  have hmq : ((m : Int) != 3) = true := by rw [bne_iff_ne]; omega
  clear hm
  have HX := Lib.hid hX
  clear hX
  go_enter Tryz.func22, Tryz.ntmps22
  go_wp2_with fail
  refine KPa.out.mono ?_
  rintro e w1 ⟨rfl, hb1⟩
  have I1 : Iz W w1.heap.size #[.int .i64 op, .int .i64 0, .int .i64 0, .int .i64 0] (w1.alloc (.cells #[.int .i64 op, .int .i64 0, .int .i64 0, .int .i64 0] 70)) := ⟨Blk.new w1 _ _, hb1.alloc hb1.size _, hb1.size⟩
  have hs1 : (w1.alloc (.cells #[.int .i64 op, .int .i64 0, .int .i64 0, .int .i64 0] 70)).heap.size = w1.heap.size + 1 := by simp
  clear hb1
  have own0 : (w1.alloc (.cells #[.int .i64 op, .int .i64 0, .int .i64 0, .int .i64 0] 70)).ownsRow (w1.heap.size + 1) 91 1 (.slice none 0 0) 0 [] := World.ownsRow_nil _ _ _ _
  have s0 : w1.heap.size + 1 ≤ (w1.alloc (.cells #[.int .i64 op, .int .i64 0, .int .i64 0, .int .i64 0] 70)).heap.size := Nat.le_of_eq hs1.symm
  clear hs1
  have HI1 := Lib.hid I1
  clear I1
  go_wp2_with (first | (at_builtin; refine wpList_append_new rfl _ _ 90 rfl (w1.heap.size + 1) (.pointer none) 1 8 Tryz.underlying90 (by kernel_rfl) rfl (by decide) _ 0 _ rfl own0 1 (by simp only [World.size_alloc]; rfl) rfl (by simp [Value.oneCell']) (by omega) (by omega) s0 ?_; intro v1 u1 own1 hb1 hk1; obtain ⟨r1, d1, rfl, -, hr1, -⟩ := own_form own1 (by decide); replace own1 : u1.ownsRow (w1.heap.size + 1) 91 1 (.slice (some ⟨r1, 0, none⟩) 1 d1) 1 [.pointer (some ⟨w1.heap.size, 1, none⟩)] := own1; have HI2 := Lib.hid (HI1.out.below hb1 (Nat.lt_succ_self _)); have s1 : w1.heap.size + 1 ≤ u1.heap.size := Nat.le_trans s0 hb1.size; clear hk1 hb1 own0) | (at_builtin; refine wpList_append_new rfl _ _ 90 rfl (w1.heap.size + 1) (.pointer none) 1 8 Tryz.underlying90 (by kernel_rfl) rfl (by decide) _ 1 _ rfl own1 1 rfl rfl (by simp [Value.oneCell']) (by omega) (by omega) s1 ?_; intro v2 u2 own2 hb2 hk2; obtain ⟨r2, d2, rfl, -, hr2, -⟩ := own_form own2 (by decide); replace own2 : u2.ownsRow (w1.heap.size + 1) 91 1 (.slice (some ⟨r2, 0, none⟩) 2 d2) 2 [.pointer (some ⟨w1.heap.size, 1, none⟩), .pointer (some ⟨w1.heap.size, 2, none⟩)] := own2; have HI3 := Lib.hid (HI2.out.below hb2 (Nat.lt_succ_self _)); have s2 : w1.heap.size + 1 ≤ u2.heap.size := Nat.le_trans s1 hb2.size; clear hk2 hb2 own1))
  go_returns
  exact StepP.bad HX.out 1 (by decide) (HI3.out.bel.mono (by omega)) (Kp.below HI3.out.bel)

set_option maxRecDepth 100000 in
set_option maxHeartbeats 8000000 in
theorem ins_abc_0 (q g c cu : Nat) (s : Asm) (A U : Option Addr) (n op : Int) (W : World) (B k : Nat) (hB : B ≤ q) (h : Rs q g s A c U cu W) (hA : shA op = true) (hBB : shB op = true) (hC : shC op = 1) (x0 x1 x2 : ByteArray) (X : Option Asm)
    (hT : Small W) (b off : Nat) (hb : b < W.heap.size) (c0 : W.cell? ⟨b, off, none⟩ = some (.string x0)) (z0 : x0.size ≤ 1000000) (_c1 : W.cell? ⟨b, off + 1, none⟩ = some (.string x1)) (_z1 : x1.size ≤ 1000000) (_c2 : W.cell? ⟨b, off + 2, none⟩ = some (.string x2)) (_z2 : x2.size ≤ 1000000)
    (k0 : Int) (n0 : Nat) (g0 : Bool) (o0 : opndX x0.data.toList = (k0, n0, g0)) (w0 : k0 ≠ 1)
    (hX : X = none) :
    Calls Tryz.prog 22 #[.pointer (some ⟨q, 0, none⟩), .int .i64 n, .int .i64 op, .slice (some ⟨b, off, none⟩) 3 k] W (StepP B q g X W) := by
  have hq := h.m.lt
  have KPa := Lib.hid (parts_at op W true true 1 hA hBB hC)
  have HR := Lib.hid h
  clear h hA hBB hC
  have KO0 := Lib.hid (opnd_at o0 z0)
  have wq : (k0 != 1) = true := by rw [bne_iff_ne]; exact w0
  clear w0
  clear o0
  have HX := Lib.hid hX
  clear hX
  go_enter Tryz.func22, Tryz.ntmps22
  go_wp2_with fail
  refine KPa.out.mono ?_
  rintro e w1 ⟨rfl, hb1⟩
  have I1 : Iz W w1.heap.size #[.int .i64 op, .int .i64 0, .int .i64 0, .int .i64 0] (w1.alloc (.cells #[.int .i64 op, .int .i64 0, .int .i64 0, .int .i64 0] 70)) := ⟨Blk.new w1 _ _, hb1.alloc hb1.size _, hb1.size⟩
  have hs1 : (w1.alloc (.cells #[.int .i64 op, .int .i64 0, .int .i64 0, .int .i64 0] 70)).heap.size = w1.heap.size + 1 := by simp
  clear hb1
  have own0 : (w1.alloc (.cells #[.int .i64 op, .int .i64 0, .int .i64 0, .int .i64 0] 70)).ownsRow (w1.heap.size + 1) 91 1 (.slice none 0 0) 0 [] := World.ownsRow_nil _ _ _ _
  have s0 : w1.heap.size + 1 ≤ (w1.alloc (.cells #[.int .i64 op, .int .i64 0, .int .i64 0, .int .i64 0] 70)).heap.size := Nat.le_of_eq hs1.symm
  clear hs1
  have HI1 := Lib.hid I1
  clear I1
  go_wp2_with (first | (at_builtin; refine wpList_append_new rfl _ _ 90 rfl (w1.heap.size + 1) (.pointer none) 1 8 Tryz.underlying90 (by kernel_rfl) rfl (by decide) _ 0 _ rfl own0 1 (by simp only [World.size_alloc]; rfl) rfl (by simp [Value.oneCell']) (by omega) (by omega) s0 ?_; intro v1 u1 own1 hb1 hk1; obtain ⟨r1, d1, rfl, -, hr1, -⟩ := own_form own1 (by decide); replace own1 : u1.ownsRow (w1.heap.size + 1) 91 1 (.slice (some ⟨r1, 0, none⟩) 1 d1) 1 [.pointer (some ⟨w1.heap.size, 1, none⟩)] := own1; have HI2 := Lib.hid (HI1.out.below hb1 (Nat.lt_succ_self _)); have s1 : w1.heap.size + 1 ≤ u1.heap.size := Nat.le_trans s0 hb1.size; clear hk1 hb1 own0) | (at_builtin; refine wpList_append_new rfl _ _ 90 rfl (w1.heap.size + 1) (.pointer none) 1 8 Tryz.underlying90 (by kernel_rfl) rfl (by decide) _ 1 _ rfl own1 1 rfl rfl (by simp [Value.oneCell']) (by omega) (by omega) s1 ?_; intro v2 u2 own2 hb2 hk2; obtain ⟨r2, d2, rfl, -, hr2, -⟩ := own_form own2 (by decide); replace own2 : u2.ownsRow (w1.heap.size + 1) 91 1 (.slice (some ⟨r2, 0, none⟩) 2 d2) 2 [.pointer (some ⟨w1.heap.size, 1, none⟩), .pointer (some ⟨w1.heap.size, 2, none⟩)] := own2; have HI3 := Lib.hid (HI2.out.below hb2 (Nat.lt_succ_self _)); have s2 : w1.heap.size + 1 ≤ u2.heap.size := Nat.le_trans s1 hb2.size; clear hk2 hb2 own1))
  refine wp_loop_rounds 1 ?_
  have bl0 := HI3.out.bel
  have rp0 := own_cell own2 (k := 0) (u := .pointer (some ⟨w1.heap.size, 1, none⟩)) rfl
  have ca0 := (bl0.cell (p := ⟨b, off, none⟩) hb).trans c0
  have sm0 := hT.below bl0 hT.1
  clear bl0
  rw [rounds_succ]
  go_wp2_with fail
  refine (KO0.out _ sm0).mono ?_
  rintro e y0 ⟨rfl, by0⟩
  have bc := fun o => (HI3.out.bel.trans (by0.mono HI3.out.bel.size)).alloc (HI3.out.bel.trans (by0.mono HI3.out.bel.size)).size o
  clear by0 sm0 rp0 ca0
  go_wp2_with fail
  go_returns
  exact StepP.bad HX.out 1 (by decide) ((bc _).mono (by omega)) (Kp.below (bc _))

set_option maxRecDepth 100000 in
set_option maxHeartbeats 8000000 in
theorem ins_abc_1 (q g c cu : Nat) (s : Asm) (A U : Option Addr) (n op : Int) (W : World) (B k : Nat) (hB : B ≤ q) (h : Rs q g s A c U cu W) (hA : shA op = true) (hBB : shB op = true) (hC : shC op = 1) (x0 x1 x2 : ByteArray) (X : Option Asm)
    (hT : Small W) (b off : Nat) (hb : b < W.heap.size) (c0 : W.cell? ⟨b, off, none⟩ = some (.string x0)) (z0 : x0.size ≤ 1000000) (c1 : W.cell? ⟨b, off + 1, none⟩ = some (.string x1)) (z1 : x1.size ≤ 1000000) (_c2 : W.cell? ⟨b, off + 2, none⟩ = some (.string x2)) (_z2 : x2.size ≤ 1000000)
    (n0 : Nat) (g0 : Bool) (o0 : opndX x0.data.toList = (1, n0, g0))
    (k1 : Int) (n1 : Nat) (g1 : Bool) (o1 : opndX x1.data.toList = (k1, n1, g1)) (w1 : k1 ≠ 1)
    (hX : X = none) :
    Calls Tryz.prog 22 #[.pointer (some ⟨q, 0, none⟩), .int .i64 n, .int .i64 op, .slice (some ⟨b, off, none⟩) 3 k] W (StepP B q g X W) := by
  have hq := h.m.lt
  have KPa := Lib.hid (parts_at op W true true 1 hA hBB hC)
  have HR := Lib.hid h
  clear h hA hBB hC
  have KO0 := Lib.hid (opnd_at o0 z0)
  have l0 : n0 < 4294967296 := by have h := opnd_lt x0.data.toList; rw [o0] at h; exact h
  have wr0 := int_conv n0 l0
  have p0 : (0 : Int) ≤ n0 := by omega
  clear o0
  have KO1 := Lib.hid (opnd_at o1 z1)
  have wq : (k1 != 1) = true := by rw [bne_iff_ne]; exact w1
  clear w1
  clear o1
  have HX := Lib.hid hX
  clear hX
  go_enter Tryz.func22, Tryz.ntmps22
  go_wp2_with fail
  refine KPa.out.mono ?_
  rintro e w1 ⟨rfl, hb1⟩
  have I1 : Iz W w1.heap.size #[.int .i64 op, .int .i64 0, .int .i64 0, .int .i64 0] (w1.alloc (.cells #[.int .i64 op, .int .i64 0, .int .i64 0, .int .i64 0] 70)) := ⟨Blk.new w1 _ _, hb1.alloc hb1.size _, hb1.size⟩
  have hs1 : (w1.alloc (.cells #[.int .i64 op, .int .i64 0, .int .i64 0, .int .i64 0] 70)).heap.size = w1.heap.size + 1 := by simp
  clear hb1
  have own0 : (w1.alloc (.cells #[.int .i64 op, .int .i64 0, .int .i64 0, .int .i64 0] 70)).ownsRow (w1.heap.size + 1) 91 1 (.slice none 0 0) 0 [] := World.ownsRow_nil _ _ _ _
  have s0 : w1.heap.size + 1 ≤ (w1.alloc (.cells #[.int .i64 op, .int .i64 0, .int .i64 0, .int .i64 0] 70)).heap.size := Nat.le_of_eq hs1.symm
  clear hs1
  have HI1 := Lib.hid I1
  clear I1
  go_wp2_with (first | (at_builtin; refine wpList_append_new rfl _ _ 90 rfl (w1.heap.size + 1) (.pointer none) 1 8 Tryz.underlying90 (by kernel_rfl) rfl (by decide) _ 0 _ rfl own0 1 (by simp only [World.size_alloc]; rfl) rfl (by simp [Value.oneCell']) (by omega) (by omega) s0 ?_; intro v1 u1 own1 hb1 hk1; obtain ⟨r1, d1, rfl, -, hr1, -⟩ := own_form own1 (by decide); replace own1 : u1.ownsRow (w1.heap.size + 1) 91 1 (.slice (some ⟨r1, 0, none⟩) 1 d1) 1 [.pointer (some ⟨w1.heap.size, 1, none⟩)] := own1; have HI2 := Lib.hid (HI1.out.below hb1 (Nat.lt_succ_self _)); have s1 : w1.heap.size + 1 ≤ u1.heap.size := Nat.le_trans s0 hb1.size; clear hk1 hb1 own0) | (at_builtin; refine wpList_append_new rfl _ _ 90 rfl (w1.heap.size + 1) (.pointer none) 1 8 Tryz.underlying90 (by kernel_rfl) rfl (by decide) _ 1 _ rfl own1 1 rfl rfl (by simp [Value.oneCell']) (by omega) (by omega) s1 ?_; intro v2 u2 own2 hb2 hk2; obtain ⟨r2, d2, rfl, -, hr2, -⟩ := own_form own2 (by decide); replace own2 : u2.ownsRow (w1.heap.size + 1) 91 1 (.slice (some ⟨r2, 0, none⟩) 2 d2) 2 [.pointer (some ⟨w1.heap.size, 1, none⟩), .pointer (some ⟨w1.heap.size, 2, none⟩)] := own2; have HI3 := Lib.hid (HI2.out.below hb2 (Nat.lt_succ_self _)); have s2 : w1.heap.size + 1 ≤ u2.heap.size := Nat.le_trans s1 hb2.size; clear hk2 hb2 own1))
  refine wp_loop_rounds 2 ?_
  have bl0 := HI3.out.bel
  have rp0 := own_cell own2 (k := 0) (u := .pointer (some ⟨w1.heap.size, 1, none⟩)) rfl
  have ca0 := (bl0.cell (p := ⟨b, off, none⟩) hb).trans c0
  have sm0 := hT.below bl0 hT.1
  clear bl0
  rw [rounds_succ]
  go_wp2_with fail
  refine (KO0.out _ sm0).mono ?_
  rintro e y0 ⟨rfl, by0⟩
  have J0 := HI3.out.below by0 HI3.out.i.lt
  have jc := J0.i.cell 1
  have jf := J0.i.frozen 1
  have jl := J0.i.lt
  have ow := own_round (k := 1) (u := .int .i64 (n0 : Nat)) (o := .cells #[.int .i64 1, .int .u32 (n0 : Nat), .bool g0] 81) own2 by0 J0.i
  have HJ := Lib.hid (J0.set 1 (.int .i64 (n0 : Nat)) (.cells #[.int .i64 1, .int .u32 (n0 : Nat), .bool g0] 81))
  have HOW := Lib.hid ow
  clear by0 sm0 rp0 ca0 J0 ow own2
  go_wp2_with fail
  have hj := HJ.out
  have ho := HOW.out
  clear jc jf jl HJ HOW
  generalize World.alloc (World.setCell _ _ _) _ = V0 at hj ho ⊢
  have HI30 := Lib.hid hj
  have own30 := ho
  clear hj ho
  have bl1 := HI30.out.bel
  have rp1 := own_cell own30 (k := 1) (u := .pointer (some ⟨w1.heap.size, 2, none⟩)) rfl
  have ca1 := (bl1.cell (p := ⟨b, off + 1, none⟩) hb).trans c1
  have sm1 := hT.below bl1 hT.1
  clear bl1
  rw [rounds_succ]
  go_wp2_with fail
  refine (KO1.out _ sm1).mono ?_
  rintro e y1 ⟨rfl, by1⟩
  have bc := fun o => (HI30.out.bel.trans (by1.mono HI30.out.bel.size)).alloc (HI30.out.bel.trans (by1.mono HI30.out.bel.size)).size o
  clear by1 sm1 rp1 ca1
  go_wp2_with fail
  go_returns
  exact StepP.bad HX.out 1 (by decide) ((bc _).mono (by omega)) (Kp.below (bc _))

set_option maxRecDepth 100000 in
set_option maxHeartbeats 8000000 in
theorem ins_abc_ok (q g c cu : Nat) (s : Asm) (A U : Option Addr) (n op : Int) (W : World) (B k : Nat) (hB : B ≤ q) (h : Rs q g s A c U cu W) (hA : shA op = true) (hBB : shB op = true) (hC : shC op = 1) (x0 x1 x2 : ByteArray) (X : Option Asm)
    (hT : Small W) (b off : Nat) (hb : b < W.heap.size) (c0 : W.cell? ⟨b, off, none⟩ = some (.string x0)) (z0 : x0.size ≤ 1000000) (c1 : W.cell? ⟨b, off + 1, none⟩ = some (.string x1)) (z1 : x1.size ≤ 1000000) (c2 : W.cell? ⟨b, off + 2, none⟩ = some (.string x2)) (z2 : x2.size ≤ 1000000)
    (n0 : Nat) (g0 : Bool) (o0 : opndX x0.data.toList = (1, n0, g0))
    (n1 : Nat) (g1 : Bool) (o1 : opndX x1.data.toList = (1, n1, g1))
    (hu : s.us.length ≤ 1000000) (hX : withX s n op n0 n1 x2.data.toList = X) :
    Calls Tryz.prog 22 #[.pointer (some ⟨q, 0, none⟩), .int .i64 n, .int .i64 op, .slice (some ⟨b, off, none⟩) 3 k] W (StepP B q g X W) := by
  have hq := h.m.lt
  have KPa := Lib.hid (parts_at op W true true 1 hA hBB hC)
  have HR := Lib.hid h
  clear h hA hBB hC
  have KO0 := Lib.hid (opnd_at o0 z0)
  have l0 : n0 < 4294967296 := by have h := opnd_lt x0.data.toList; rw [o0] at h; exact h
  have wr0 := int_conv n0 l0
  have p0 : (0 : Int) ≤ n0 := by omega
  clear o0
  have KO1 := Lib.hid (opnd_at o1 z1)
  have l1 : n1 < 4294967296 := by have h := opnd_lt x1.data.toList; rw [o1] at h; exact h
  have wr1 := int_conv n1 l1
  have p1 : (0 : Int) ≤ n1 := by omega
  clear o1
  have HX := Lib.hid hX
  clear hX
  go_enter Tryz.func22, Tryz.ntmps22
  go_wp2_with fail
  refine KPa.out.mono ?_
  rintro e w1 ⟨rfl, hb1⟩
  have I1 : Iz W w1.heap.size #[.int .i64 op, .int .i64 0, .int .i64 0, .int .i64 0] (w1.alloc (.cells #[.int .i64 op, .int .i64 0, .int .i64 0, .int .i64 0] 70)) := ⟨Blk.new w1 _ _, hb1.alloc hb1.size _, hb1.size⟩
  have hs1 : (w1.alloc (.cells #[.int .i64 op, .int .i64 0, .int .i64 0, .int .i64 0] 70)).heap.size = w1.heap.size + 1 := by simp
  clear hb1
  have own0 : (w1.alloc (.cells #[.int .i64 op, .int .i64 0, .int .i64 0, .int .i64 0] 70)).ownsRow (w1.heap.size + 1) 91 1 (.slice none 0 0) 0 [] := World.ownsRow_nil _ _ _ _
  have s0 : w1.heap.size + 1 ≤ (w1.alloc (.cells #[.int .i64 op, .int .i64 0, .int .i64 0, .int .i64 0] 70)).heap.size := Nat.le_of_eq hs1.symm
  clear hs1
  have HI1 := Lib.hid I1
  clear I1
  go_wp2_with (first | (at_builtin; refine wpList_append_new rfl _ _ 90 rfl (w1.heap.size + 1) (.pointer none) 1 8 Tryz.underlying90 (by kernel_rfl) rfl (by decide) _ 0 _ rfl own0 1 (by simp only [World.size_alloc]; rfl) rfl (by simp [Value.oneCell']) (by omega) (by omega) s0 ?_; intro v1 u1 own1 hb1 hk1; obtain ⟨r1, d1, rfl, -, hr1, -⟩ := own_form own1 (by decide); replace own1 : u1.ownsRow (w1.heap.size + 1) 91 1 (.slice (some ⟨r1, 0, none⟩) 1 d1) 1 [.pointer (some ⟨w1.heap.size, 1, none⟩)] := own1; have HI2 := Lib.hid (HI1.out.below hb1 (Nat.lt_succ_self _)); have s1 : w1.heap.size + 1 ≤ u1.heap.size := Nat.le_trans s0 hb1.size; clear hk1 hb1 own0) | (at_builtin; refine wpList_append_new rfl _ _ 90 rfl (w1.heap.size + 1) (.pointer none) 1 8 Tryz.underlying90 (by kernel_rfl) rfl (by decide) _ 1 _ rfl own1 1 rfl rfl (by simp [Value.oneCell']) (by omega) (by omega) s1 ?_; intro v2 u2 own2 hb2 hk2; obtain ⟨r2, d2, rfl, -, hr2, -⟩ := own_form own2 (by decide); replace own2 : u2.ownsRow (w1.heap.size + 1) 91 1 (.slice (some ⟨r2, 0, none⟩) 2 d2) 2 [.pointer (some ⟨w1.heap.size, 1, none⟩), .pointer (some ⟨w1.heap.size, 2, none⟩)] := own2; have HI3 := Lib.hid (HI2.out.below hb2 (Nat.lt_succ_self _)); have s2 : w1.heap.size + 1 ≤ u2.heap.size := Nat.le_trans s1 hb2.size; clear hk2 hb2 own1))
  refine wp_loop_rounds 3 ?_
  have bl0 := HI3.out.bel
  have rp0 := own_cell own2 (k := 0) (u := .pointer (some ⟨w1.heap.size, 1, none⟩)) rfl
  have ca0 := (bl0.cell (p := ⟨b, off, none⟩) hb).trans c0
  have sm0 := hT.below bl0 hT.1
  clear bl0
  rw [rounds_succ]
  go_wp2_with fail
  refine (KO0.out _ sm0).mono ?_
  rintro e y0 ⟨rfl, by0⟩
  have J0 := HI3.out.below by0 HI3.out.i.lt
  have jc := J0.i.cell 1
  have jf := J0.i.frozen 1
  have jl := J0.i.lt
  have ow := own_round (k := 1) (u := .int .i64 (n0 : Nat)) (o := .cells #[.int .i64 1, .int .u32 (n0 : Nat), .bool g0] 81) own2 by0 J0.i
  have HJ := Lib.hid (J0.set 1 (.int .i64 (n0 : Nat)) (.cells #[.int .i64 1, .int .u32 (n0 : Nat), .bool g0] 81))
  have HOW := Lib.hid ow
  clear by0 sm0 rp0 ca0 J0 ow own2
  go_wp2_with fail
  have hj := HJ.out
  have ho := HOW.out
  clear jc jf jl HJ HOW
  generalize World.alloc (World.setCell _ _ _) _ = V0 at hj ho ⊢
  have HI30 := Lib.hid hj
  have own30 := ho
  clear hj ho
  have bl1 := HI30.out.bel
  have rp1 := own_cell own30 (k := 1) (u := .pointer (some ⟨w1.heap.size, 2, none⟩)) rfl
  have ca1 := (bl1.cell (p := ⟨b, off + 1, none⟩) hb).trans c1
  have sm1 := hT.below bl1 hT.1
  clear bl1
  rw [rounds_succ]
  go_wp2_with fail
  refine (KO1.out _ sm1).mono ?_
  rintro e y1 ⟨rfl, by1⟩
  have J1 := HI30.out.below by1 HI30.out.i.lt
  have jc := J1.i.cell 2
  have jf := J1.i.frozen 2
  have jl := J1.i.lt
  have ow := own_round (k := 2) (u := .int .i64 (n1 : Nat)) (o := .cells #[.int .i64 1, .int .u32 (n1 : Nat), .bool g1] 81) own30 by1 J1.i
  have HJ := Lib.hid (J1.set 2 (.int .i64 (n1 : Nat)) (.cells #[.int .i64 1, .int .u32 (n1 : Nat), .bool g1] 81))
  have HOW := Lib.hid ow
  clear by1 sm1 rp1 ca1 J1 ow own30
  go_wp2_with fail
  have hj := HJ.out
  have ho := HOW.out
  clear jc jf jl HJ HOW
  generalize World.alloc (World.setCell _ _ _) _ = V1 at hj ho ⊢
  have HI31 := Lib.hid hj
  have own31 := ho
  clear hj ho
  rw [rounds_succ]
  have E0 := HI31.out.i.cell 0
  have E1 := HI31.out.i.cell 1
  have E2 := HI31.out.i.cell 2
  have E3 := HI31.out.i.cell 3
  have ca := (HI31.out.bel.cell (p := ⟨b, off + 2, none⟩) hb).trans c2
  have sm := hT.below HI31.out.bel hT.1
  have R := HR.out.below rfl HI31.out.bel
  have KW := fun W2 => asm_withC q g c cu s A U n op (n0 : Nat) (n1 : Nat) x2 W2 B hB
  have HKW := Lib.hid KW
  have HRR := Lib.hid R
  clear KW R
  go_wp2_with fail
  go_region_with (go_at_call 42; refine (HKW.out _ (sm.below (Below.refl _ _).drew sm.1) z2 hu HRR.out.drew).mono ?_; intro e w9 hS; rw [HX.out] at hS; obtain ⟨z, rfl⟩ := hS.num; have HS := Lib.hid (StepP.after (V := World.drew _) ((HI31.out.bel.mono (show B ≤ W.heap.size from by omega)).drew) (Kp.below HI31.out.bel.drew) hS); clear hS)
  all_goals
    go_wp2_with fail
    go_returns
    exact HS.out

set_option maxRecDepth 100000 in
set_option maxHeartbeats 8000000 in
theorem ins_c_len (q g c cu : Nat) (s : Asm) (A U : Option Addr) (n op : Int) (W : World) (B k : Nat) (hB : B ≤ q) (h : Rs q g s A c U cu W) (hA : shA op = false) (hBB : shB op = false) (hC : shC op = 1) (L : Option Addr) (m : Nat) (hm : m ≠ 1) (X : Option Asm) (hX : X = none) :
    Calls Tryz.prog 22 #[.pointer (some ⟨q, 0, none⟩), .int .i64 n, .int .i64 op, .slice L m k] W (StepP B q g X W) := by
  have hq := h.m.lt
  have KPa := Lib.hid (parts_at op W false false 1 hA hBB hC)
  have HR := Lib.hid h
  clear h hA hBB hC
  have hmq : ((m : Int) != 1) = true := by rw [bne_iff_ne]; omega
  clear hm
  have HX := Lib.hid hX
  clear hX
  go_enter Tryz.func22, Tryz.ntmps22
  go_wp2_with fail
  refine KPa.out.mono ?_
  rintro e w1 ⟨rfl, hb1⟩
  have I1 : Iz W w1.heap.size #[.int .i64 op, .int .i64 0, .int .i64 0, .int .i64 0] (w1.alloc (.cells #[.int .i64 op, .int .i64 0, .int .i64 0, .int .i64 0] 70)) := ⟨Blk.new w1 _ _, hb1.alloc hb1.size _, hb1.size⟩
  have hs1 : (w1.alloc (.cells #[.int .i64 op, .int .i64 0, .int .i64 0, .int .i64 0] 70)).heap.size = w1.heap.size + 1 := by simp
  clear hb1
  go_wp2_with fail
  go_returns
  exact StepP.bad HX.out 1 (by decide) (I1.bel.mono (by omega)) (Kp.below I1.bel)

set_option maxRecDepth 100000 in
set_option maxHeartbeats 8000000 in
theorem ins_c_ok (q g c cu : Nat) (s : Asm) (A U : Option Addr) (n op : Int) (W : World) (B k : Nat) (hB : B ≤ q) (h : Rs q g s A c U cu W) (hA : shA op = false) (hBB : shB op = false) (hC : shC op = 1) (x0 : ByteArray) (X : Option Asm)
    (hT : Small W) (b off : Nat) (hb : b < W.heap.size) (c0 : W.cell? ⟨b, off, none⟩ = some (.string x0)) (z0 : x0.size ≤ 1000000)
    (hu : s.us.length ≤ 1000000) (hX : withX s n op 0 0 x0.data.toList = X) :
    Calls Tryz.prog 22 #[.pointer (some ⟨q, 0, none⟩), .int .i64 n, .int .i64 op, .slice (some ⟨b, off, none⟩) 1 k] W (StepP B q g X W) := by
  have hq := h.m.lt
  have KPa := Lib.hid (parts_at op W false false 1 hA hBB hC)
  have HR := Lib.hid h
  clear h hA hBB hC
  have HX := Lib.hid hX
  clear hX
  go_enter Tryz.func22, Tryz.ntmps22
  go_wp2_with fail
  refine KPa.out.mono ?_
  rintro e w1 ⟨rfl, hb1⟩
  have I1 : Iz W w1.heap.size #[.int .i64 op, .int .i64 0, .int .i64 0, .int .i64 0] (w1.alloc (.cells #[.int .i64 op, .int .i64 0, .int .i64 0, .int .i64 0] 70)) := ⟨Blk.new w1 _ _, hb1.alloc hb1.size _, hb1.size⟩
  have hs1 : (w1.alloc (.cells #[.int .i64 op, .int .i64 0, .int .i64 0, .int .i64 0] 70)).heap.size = w1.heap.size + 1 := by simp
  clear hb1
  go_wp2_with fail
  have HI0 := Lib.hid I1
  clear I1 hs1
  refine wp_loop_rounds 1 ?_
  rw [rounds_succ]
  have E0 := HI0.out.i.cell 0
  have E1 := HI0.out.i.cell 1
  have E2 := HI0.out.i.cell 2
  have E3 := HI0.out.i.cell 3
  have ca := (HI0.out.bel.cell (p := ⟨b, off, none⟩) hb).trans c0
  have sm := hT.below HI0.out.bel hT.1
  have R := HR.out.below rfl HI0.out.bel
  have KW := fun W2 => asm_withC q g c cu s A U n op 0 0 x0 W2 B hB
  have HKW := Lib.hid KW
  have HRR := Lib.hid R
  clear KW R
  go_wp2_with fail
  go_region_with (go_at_call 42; refine (HKW.out _ (sm.below (Below.refl _ _).drew sm.1) z0 hu HRR.out.drew).mono ?_; intro e w9 hS; rw [HX.out] at hS; obtain ⟨z, rfl⟩ := hS.num; have HS := Lib.hid (StepP.after (V := World.drew _) ((HI0.out.bel.mono (show B ≤ W.heap.size from by omega)).drew) (Kp.below HI0.out.bel.drew) hS); clear hS)
  all_goals
    go_wp2_with fail
    go_returns
    exact HS.out

set_option maxRecDepth 100000 in
set_option maxHeartbeats 8000000 in
theorem ins_a_len (q g c cu : Nat) (s : Asm) (A U : Option Addr) (n op : Int) (W : World) (B k : Nat) (hB : B ≤ q) (h : Rs q g s A c U cu W) (hA : shA op = true) (hBB : shB op = false) (hC : shC op = 0) (L : Option Addr) (m : Nat) (hm : m ≠ 1) (X : Option Asm) (hX : X = none) :
    Calls Tryz.prog 22 #[.pointer (some ⟨q, 0, none⟩), .int .i64 n, .int .i64 op, .slice L m k] W (StepP B q g X W) := by
  have hq := h.m.lt
  have KPa := Lib.hid (parts_at op W true false 0 hA hBB hC)
  have HR := Lib.hid h
  clear h hA hBB hC
  have hmq : ((m : Int) != 1) = true := by rw [bne_iff_ne]; omega
  clear hm
  have HX := Lib.hid hX
  clear hX
  go_enter Tryz.func22, Tryz.ntmps22
  go_wp2_with fail
  refine KPa.out.mono ?_
  rintro e w1 ⟨rfl, hb1⟩
  have I1 : Iz W w1.heap.size #[.int .i64 op, .int .i64 0, .int .i64 0, .int .i64 0] (w1.alloc (.cells #[.int .i64 op, .int .i64 0, .int .i64 0, .int .i64 0] 70)) := ⟨Blk.new w1 _ _, hb1.alloc hb1.size _, hb1.size⟩
  have hs1 : (w1.alloc (.cells #[.int .i64 op, .int .i64 0, .int .i64 0, .int .i64 0] 70)).heap.size = w1.heap.size + 1 := by simp
  clear hb1
  have own0 : (w1.alloc (.cells #[.int .i64 op, .int .i64 0, .int .i64 0, .int .i64 0] 70)).ownsRow (w1.heap.size + 1) 91 1 (.slice none 0 0) 0 [] := World.ownsRow_nil _ _ _ _
  have s0 : w1.heap.size + 1 ≤ (w1.alloc (.cells #[.int .i64 op, .int .i64 0, .int .i64 0, .int .i64 0] 70)).heap.size := Nat.le_of_eq hs1.symm
  clear hs1
  have HI1 := Lib.hid I1
  clear I1
  go_wp2_with (first | (at_builtin; refine wpList_append_new rfl _ _ 90 rfl (w1.heap.size + 1) (.pointer none) 1 8 Tryz.underlying90 (by kernel_rfl) rfl (by decide) _ 0 _ rfl own0 1 (by simp only [World.size_alloc]; rfl) rfl (by simp [Value.oneCell']) (by omega) (by omega) s0 ?_; intro v1 u1 own1 hb1 hk1; obtain ⟨r1, d1, rfl, -, hr1, -⟩ := own_form own1 (by decide); replace own1 : u1.ownsRow (w1.heap.size + 1) 91 1 (.slice (some ⟨r1, 0, none⟩) 1 d1) 1 [.pointer (some ⟨w1.heap.size, 1, none⟩)] := own1; have HI2 := Lib.hid (HI1.out.below hb1 (Nat.lt_succ_self _)); have s1 : w1.heap.size + 1 ≤ u1.heap.size := Nat.le_trans s0 hb1.size; clear hk1 hb1 own0))
  go_returns
  exact StepP.bad HX.out 1 (by decide) (HI2.out.bel.mono (by omega)) (Kp.below HI2.out.bel)

set_option maxRecDepth 100000 in
set_option maxHeartbeats 8000000 in
theorem ins_a_0 (q g c cu : Nat) (s : Asm) (A U : Option Addr) (n op : Int) (W : World) (B k : Nat) (hB : B ≤ q) (h : Rs q g s A c U cu W) (hA : shA op = true) (hBB : shB op = false) (hC : shC op = 0) (x0 : ByteArray) (X : Option Asm)
    (hT : Small W) (b off : Nat) (hb : b < W.heap.size) (c0 : W.cell? ⟨b, off, none⟩ = some (.string x0)) (z0 : x0.size ≤ 1000000)
    (k0 : Int) (n0 : Nat) (g0 : Bool) (o0 : opndX x0.data.toList = (k0, n0, g0)) (w0 : k0 ≠ 1)
    (hX : X = none) :
    Calls Tryz.prog 22 #[.pointer (some ⟨q, 0, none⟩), .int .i64 n, .int .i64 op, .slice (some ⟨b, off, none⟩) 1 k] W (StepP B q g X W) := by
  have hq := h.m.lt
  have KPa := Lib.hid (parts_at op W true false 0 hA hBB hC)
  have HR := Lib.hid h
  clear h hA hBB hC
  have KO0 := Lib.hid (opnd_at o0 z0)
  have wq : (k0 != 1) = true := by rw [bne_iff_ne]; exact w0
  clear w0
  clear o0
  have HX := Lib.hid hX
  clear hX
  go_enter Tryz.func22, Tryz.ntmps22
  go_wp2_with fail
  refine KPa.out.mono ?_
  rintro e w1 ⟨rfl, hb1⟩
  have I1 : Iz W w1.heap.size #[.int .i64 op, .int .i64 0, .int .i64 0, .int .i64 0] (w1.alloc (.cells #[.int .i64 op, .int .i64 0, .int .i64 0, .int .i64 0] 70)) := ⟨Blk.new w1 _ _, hb1.alloc hb1.size _, hb1.size⟩
  have hs1 : (w1.alloc (.cells #[.int .i64 op, .int .i64 0, .int .i64 0, .int .i64 0] 70)).heap.size = w1.heap.size + 1 := by simp
  clear hb1
  have own0 : (w1.alloc (.cells #[.int .i64 op, .int .i64 0, .int .i64 0, .int .i64 0] 70)).ownsRow (w1.heap.size + 1) 91 1 (.slice none 0 0) 0 [] := World.ownsRow_nil _ _ _ _
  have s0 : w1.heap.size + 1 ≤ (w1.alloc (.cells #[.int .i64 op, .int .i64 0, .int .i64 0, .int .i64 0] 70)).heap.size := Nat.le_of_eq hs1.symm
  clear hs1
  have HI1 := Lib.hid I1
  clear I1
  go_wp2_with (first | (at_builtin; refine wpList_append_new rfl _ _ 90 rfl (w1.heap.size + 1) (.pointer none) 1 8 Tryz.underlying90 (by kernel_rfl) rfl (by decide) _ 0 _ rfl own0 1 (by simp only [World.size_alloc]; rfl) rfl (by simp [Value.oneCell']) (by omega) (by omega) s0 ?_; intro v1 u1 own1 hb1 hk1; obtain ⟨r1, d1, rfl, -, hr1, -⟩ := own_form own1 (by decide); replace own1 : u1.ownsRow (w1.heap.size + 1) 91 1 (.slice (some ⟨r1, 0, none⟩) 1 d1) 1 [.pointer (some ⟨w1.heap.size, 1, none⟩)] := own1; have HI2 := Lib.hid (HI1.out.below hb1 (Nat.lt_succ_self _)); have s1 : w1.heap.size + 1 ≤ u1.heap.size := Nat.le_trans s0 hb1.size; clear hk1 hb1 own0))
  refine wp_loop_rounds 1 ?_
  have bl0 := HI2.out.bel
  have rp0 := own_cell own1 (k := 0) (u := .pointer (some ⟨w1.heap.size, 1, none⟩)) rfl
  have ca0 := (bl0.cell (p := ⟨b, off, none⟩) hb).trans c0
  have sm0 := hT.below bl0 hT.1
  clear bl0
  rw [rounds_succ]
  go_wp2_with fail
  refine (KO0.out _ sm0).mono ?_
  rintro e y0 ⟨rfl, by0⟩
  have bc := fun o => (HI2.out.bel.trans (by0.mono HI2.out.bel.size)).alloc (HI2.out.bel.trans (by0.mono HI2.out.bel.size)).size o
  clear by0 sm0 rp0 ca0
  go_wp2_with fail
  go_returns
  exact StepP.bad HX.out 1 (by decide) ((bc _).mono (by omega)) (Kp.below (bc _))

set_option maxRecDepth 100000 in
set_option maxHeartbeats 8000000 in
theorem ins_a_ok (q g c cu : Nat) (s : Asm) (A U : Option Addr) (n op : Int) (W : World) (B k : Nat) (hB : B ≤ q) (h : Rs q g s A c U cu W) (hA : shA op = true) (hBB : shB op = false) (hC : shC op = 0) (x0 : ByteArray) (X : Option Asm)
    (hT : Small W) (b off : Nat) (hb : b < W.heap.size) (c0 : W.cell? ⟨b, off, none⟩ = some (.string x0)) (z0 : x0.size ≤ 1000000)
    (n0 : Nat) (g0 : Bool) (o0 : opndX x0.data.toList = (1, n0, g0))
    (hX : encX s op n0 0 0 = X) :
    Calls Tryz.prog 22 #[.pointer (some ⟨q, 0, none⟩), .int .i64 n, .int .i64 op, .slice (some ⟨b, off, none⟩) 1 k] W (StepP B q g X W) := by
  have hq := h.m.lt
  have KPa := Lib.hid (parts_at op W true false 0 hA hBB hC)
  have HR := Lib.hid h
  clear h hA hBB hC
  have KO0 := Lib.hid (opnd_at o0 z0)
  have l0 : n0 < 4294967296 := by have h := opnd_lt x0.data.toList; rw [o0] at h; exact h
  have wr0 := int_conv n0 l0
  have p0 : (0 : Int) ≤ n0 := by omega
  clear o0
  have HX := Lib.hid hX
  clear hX
  go_enter Tryz.func22, Tryz.ntmps22
  go_wp2_with fail
  refine KPa.out.mono ?_
  rintro e w1 ⟨rfl, hb1⟩
  have I1 : Iz W w1.heap.size #[.int .i64 op, .int .i64 0, .int .i64 0, .int .i64 0] (w1.alloc (.cells #[.int .i64 op, .int .i64 0, .int .i64 0, .int .i64 0] 70)) := ⟨Blk.new w1 _ _, hb1.alloc hb1.size _, hb1.size⟩
  have hs1 : (w1.alloc (.cells #[.int .i64 op, .int .i64 0, .int .i64 0, .int .i64 0] 70)).heap.size = w1.heap.size + 1 := by simp
  clear hb1
  have own0 : (w1.alloc (.cells #[.int .i64 op, .int .i64 0, .int .i64 0, .int .i64 0] 70)).ownsRow (w1.heap.size + 1) 91 1 (.slice none 0 0) 0 [] := World.ownsRow_nil _ _ _ _
  have s0 : w1.heap.size + 1 ≤ (w1.alloc (.cells #[.int .i64 op, .int .i64 0, .int .i64 0, .int .i64 0] 70)).heap.size := Nat.le_of_eq hs1.symm
  clear hs1
  have HI1 := Lib.hid I1
  clear I1
  go_wp2_with (first | (at_builtin; refine wpList_append_new rfl _ _ 90 rfl (w1.heap.size + 1) (.pointer none) 1 8 Tryz.underlying90 (by kernel_rfl) rfl (by decide) _ 0 _ rfl own0 1 (by simp only [World.size_alloc]; rfl) rfl (by simp [Value.oneCell']) (by omega) (by omega) s0 ?_; intro v1 u1 own1 hb1 hk1; obtain ⟨r1, d1, rfl, -, hr1, -⟩ := own_form own1 (by decide); replace own1 : u1.ownsRow (w1.heap.size + 1) 91 1 (.slice (some ⟨r1, 0, none⟩) 1 d1) 1 [.pointer (some ⟨w1.heap.size, 1, none⟩)] := own1; have HI2 := Lib.hid (HI1.out.below hb1 (Nat.lt_succ_self _)); have s1 : w1.heap.size + 1 ≤ u1.heap.size := Nat.le_trans s0 hb1.size; clear hk1 hb1 own0))
  refine wp_loop_rounds 2 ?_
  have bl0 := HI2.out.bel
  have rp0 := own_cell own1 (k := 0) (u := .pointer (some ⟨w1.heap.size, 1, none⟩)) rfl
  have ca0 := (bl0.cell (p := ⟨b, off, none⟩) hb).trans c0
  have sm0 := hT.below bl0 hT.1
  clear bl0
  rw [rounds_succ]
  go_wp2_with fail
  refine (KO0.out _ sm0).mono ?_
  rintro e y0 ⟨rfl, by0⟩
  have J0 := HI2.out.below by0 HI2.out.i.lt
  have jc := J0.i.cell 1
  have jf := J0.i.frozen 1
  have jl := J0.i.lt
  have ow := own_round (k := 1) (u := .int .i64 (n0 : Nat)) (o := .cells #[.int .i64 1, .int .u32 (n0 : Nat), .bool g0] 81) own1 by0 J0.i
  have HJ := Lib.hid (J0.set 1 (.int .i64 (n0 : Nat)) (.cells #[.int .i64 1, .int .u32 (n0 : Nat), .bool g0] 81))
  have HOW := Lib.hid ow
  clear by0 sm0 rp0 ca0 J0 ow own1
  go_wp2_with fail
  have hj := HJ.out
  have ho := HOW.out
  clear jc jf jl HJ HOW
  generalize World.alloc (World.setCell _ _ _) _ = V0 at hj ho ⊢
  have HI30 := Lib.hid hj
  have own30 := ho
  clear hj ho
  rw [rounds_succ]
  have E0 := HI30.out.i.cell 0
  have E1 := HI30.out.i.cell 1
  have E2 := HI30.out.i.cell 2
  have E3 := HI30.out.i.cell 3
  have R := HR.out.below rfl HI30.out.bel
  have KW := fun W2 => asm_encode q g c cu s A U op (n0 : Nat) 0 0 W2 B hB
  have HKW := Lib.hid KW
  have HRR := Lib.hid R
  clear KW R
  go_wp2_with fail
  refine (HKW.out _ HRR.out).mono ?_
  intro e w9 hS
  rw [HX.out] at hS
  obtain ⟨z, rfl⟩ := hS.num
  have HS := Lib.hid (StepP.after (HI30.out.bel.mono (show B ≤ W.heap.size from by omega)) (Kp.below HI30.out.bel) hS)
  clear hS
  go_wp2_with fail
  go_returns
  exact HS.out

set_option maxRecDepth 100000 in
set_option maxHeartbeats 8000000 in
theorem ins_no_len (q g c cu : Nat) (s : Asm) (A U : Option Addr) (n op : Int) (W : World) (B k : Nat) (hB : B ≤ q) (h : Rs q g s A c U cu W) (hA : shA op = false) (hBB : shB op = false) (hC : shC op = 0) (L : Option Addr) (m : Nat) (hm : m ≠ 0) (X : Option Asm) (hX : X = none) :
    Calls Tryz.prog 22 #[.pointer (some ⟨q, 0, none⟩), .int .i64 n, .int .i64 op, .slice L m k] W (StepP B q g X W) := by
  have hq := h.m.lt
  have KPa := Lib.hid (parts_at op W false false 0 hA hBB hC)
  have HR := Lib.hid h
  clear h hA hBB hC
  have hmq : ((m : Int) != 0) = true := by rw [bne_iff_ne]; omega
  clear hm
  have HX := Lib.hid hX
  clear hX
  go_enter Tryz.func22, Tryz.ntmps22
  go_wp2_with fail
  refine KPa.out.mono ?_
  rintro e w1 ⟨rfl, hb1⟩
  have I1 : Iz W w1.heap.size #[.int .i64 op, .int .i64 0, .int .i64 0, .int .i64 0] (w1.alloc (.cells #[.int .i64 op, .int .i64 0, .int .i64 0, .int .i64 0] 70)) := ⟨Blk.new w1 _ _, hb1.alloc hb1.size _, hb1.size⟩
  have hs1 : (w1.alloc (.cells #[.int .i64 op, .int .i64 0, .int .i64 0, .int .i64 0] 70)).heap.size = w1.heap.size + 1 := by simp
  clear hb1
  go_wp2_with fail
  go_returns
  exact StepP.bad HX.out 1 (by decide) (I1.bel.mono (by omega)) (Kp.below I1.bel)

set_option maxRecDepth 100000 in
set_option maxHeartbeats 8000000 in
theorem ins_no_ok (q g c cu : Nat) (s : Asm) (A U : Option Addr) (n op : Int) (W : World) (B k : Nat) (hB : B ≤ q) (h : Rs q g s A c U cu W) (hA : shA op = false) (hBB : shB op = false) (hC : shC op = 0) (L : Option Addr) (X : Option Asm)
    (hX : encX s op 0 0 0 = X) :
    Calls Tryz.prog 22 #[.pointer (some ⟨q, 0, none⟩), .int .i64 n, .int .i64 op, .slice L 0 k] W (StepP B q g X W) := by
  have hq := h.m.lt
  have KPa := Lib.hid (parts_at op W false false 0 hA hBB hC)
  have HR := Lib.hid h
  clear h hA hBB hC
  have HX := Lib.hid hX
  clear hX
  go_enter Tryz.func22, Tryz.ntmps22
  go_wp2_with fail
  refine KPa.out.mono ?_
  rintro e w1 ⟨rfl, hb1⟩
  have I1 : Iz W w1.heap.size #[.int .i64 op, .int .i64 0, .int .i64 0, .int .i64 0] (w1.alloc (.cells #[.int .i64 op, .int .i64 0, .int .i64 0, .int .i64 0] 70)) := ⟨Blk.new w1 _ _, hb1.alloc hb1.size _, hb1.size⟩
  have hs1 : (w1.alloc (.cells #[.int .i64 op, .int .i64 0, .int .i64 0, .int .i64 0] 70)).heap.size = w1.heap.size + 1 := by simp
  clear hb1
  go_wp2_with fail
  have HI0 := Lib.hid I1
  clear I1 hs1
  refine wp_loop_rounds 1 ?_
  rw [rounds_succ]
  have E0 := HI0.out.i.cell 0
  have E1 := HI0.out.i.cell 1
  have E2 := HI0.out.i.cell 2
  have E3 := HI0.out.i.cell 3
  have R := HR.out.below rfl HI0.out.bel
  have KW := fun W2 => asm_encode q g c cu s A U op 0 0 0 W2 B hB
  have HKW := Lib.hid KW
  have HRR := Lib.hid R
  clear KW R
  go_wp2_with fail
  refine (HKW.out _ HRR.out).mono ?_
  intro e w9 hS
  rw [HX.out] at hS
  obtain ⟨z, rfl⟩ := hS.num
  have HS := Lib.hid (StepP.after (HI0.out.bel.mono (show B ≤ W.heap.size from by omega)) (Kp.below HI0.out.bel) hS)
  clear hS
  go_wp2_with fail
  go_returns
  exact HS.out

end Go.Proofs.YtknonabeagbjeaaGreatDoor
