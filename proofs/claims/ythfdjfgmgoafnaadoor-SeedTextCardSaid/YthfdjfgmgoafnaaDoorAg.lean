/- Layer 12, the document's: a line's instruction put behind the code, walked, at the seed's shapes (printed by gen/aput.py). -/
import Derived.Lib.OthersKept
import Derived.Lib.BufferKept
import Derived.RegionTactic
import Derived.ChangeAlike
import Derived.Test.YthfdjfgmgoafnaaDoorAe
import Derived.Test.YthfdjfgmgoafnaaDoorAf
namespace Go.Proofs.YthfdjfgmgoafnaaDoor
open Go.RowKit

/-- What was read so far, in block q: the code, no label, no use. -/
structure Md (q : Nat) (code : List UInt32) (A : Option Addr) (c : Nat) (W : World) : Prop where
  m : Blk W q 57 #[.slice A code.length c, .int .i64 0, .slice none 0 0, .slice none 0 0, .slice none 0 0, .bool false]
  own : W.ownsRow q 47 1 (.slice A code.length c) code.length (code.map wv)
section
variable {q c : Nat} {code : List UInt32} {A : Option Addr} {W W' : World}
theorem Md.below (h : Md q code A c W) (hb : Below W.heap.size W W') : Md q code A c W' := ⟨h.m.below hb h.m.lt, own_below h.own rfl hb⟩
theorem Md.all (h : Md q code A c W) : W.cell? ⟨q, 0, none⟩ = some (.slice A code.length c) ∧ W.cell? ⟨q, 3, none⟩ = some (.slice none 0 0) ∧ W.cell? ⟨q, 4, none⟩ = some (.slice none 0 0) ∧ W.cell? ⟨q, 5, none⟩ = some (.bool false) ∧ W.frozen? ⟨q, 0, none⟩ = false :=
  ⟨h.m.cell 0, h.m.cell 3, h.m.cell 4, h.m.cell 5, h.m.frozen 0⟩
end
theorem below_two (W : World) (o1 o2 : Obj) : Below W.heap.size W ((W.alloc o1).alloc o2).drew :=
  have h := ((Below.refl _ W).alloc (Nat.le_refl _) o1).alloc (by simp) o2
  ⟨h.os, h.tape, h.output, h.size, h.block⟩
theorem below_two' (W : World) (o1 o2 : Obj) : Below W.heap.size W ((W.alloc o1).alloc o2) :=
  ((Below.refl _ W).alloc (Nat.le_refl _) o1).alloc (by simp) o2
theorem own_far {w : World} {B E sz n g : Nat} {t : TypeId} {v u : Value} {i : Nat} {xs : List Value} {cs : Array Value} (h : w.ownsRow B E sz v n xs) (hb : Blk w g t cs) (hne : t ≠ E) : (w.setCell ⟨g, i, none⟩ u).ownsRow B E sz v n xs := by
  refine ⟨h.1, ?_⟩
  rcases h.2 with h2 | ⟨g', cap, cur, hv, hg, hh, r⟩
  · exact .inl h2
  · refine .inr ⟨g', cap, cur, hv, hg, ?_, r⟩
    have hgg : g' ≠ g := by
      intro e
      subst e
      unfold Blk at hb
      rw [hh] at hb
      injection hb with hb
      injection hb with _ hb _
      exact hne hb.symm
    exact (Below.heap_setCell w ⟨g, i, none⟩ u g' hgg).trans hh
theorem others_append {w w' : World} {v : Value} {B E sz n : Nat} {xs : List Value} (b : Option Nat) (hown : w.ownsRow B E sz v n xs) (hk : ∀ k, k < w.heap.size → some k ≠ v.ownBlock → w'.heap[k]? = w.heap[k]?) : Lib.OthersKept E b w w' := by
  intro k o h1 _ h3
  refine (hk k (Array.getElem?_eq_some_iff.1 h1).1 (fun e => ?_)).trans h1
  rcases hown.2 with ⟨rfl, _⟩ | ⟨g', cap, cur, rfl, _, hh, _⟩
  · cases e
  · injection e with e
    subst e
    rw [hh] at h1
    injection h1 with h1
    exact h3 _ _ h1.symm
theorem md_put {q k g c' : Nat} {code : List UInt32} {x : UInt32} {A : Option Addr} {W w1 w3 : World} (hg1 : Below W.heap.size W w1) (M1 : Md q code A k w1) (hq : q < W.heap.size)
    (hown1 : w3.ownsRow q 47 1 (.slice (some ⟨g, 0, none⟩) (code.length + 1) c') (code.length + 1) (code.map wv ++ [.int .u32 x.toNat])) (hb3 : Below q w1 w3)
    (hk3 : ∀ j, j < w1.heap.size → some j ≠ (Value.slice A code.length k).ownBlock → w3.heap[j]? = w1.heap[j]?) :
    (∃ A' k', Md q (code ++ [x]) A' k' (w3.setCell ⟨q, 0, none⟩ (.slice (some ⟨g, 0, none⟩) (code.length + 1) c'))) ∧ Below q W (w3.setCell ⟨q, 0, none⟩ (.slice (some ⟨g, 0, none⟩) (code.length + 1) c')) ∧
      Lib.OthersKept 47 (some q) W (w3.setCell ⟨q, 0, none⟩ (.slice (some ⟨g, 0, none⟩) (code.length + 1) c')) := by
  have hm3 := M1.m.keep hk3 M1.own (by decide)
  refine ⟨⟨some ⟨g, 0, none⟩, c', ?_, ?_⟩, (hg1.mono (Nat.le_of_lt hq)).trans (hb3.setCell (Nat.le_refl _) _), ?_⟩
  · have h := hm3.set 0 (.slice (some ⟨g, 0, none⟩) (code.length + 1) c')
    rw [List.length_append]
    exact h
  · have h := own_far (u := .slice (some ⟨g, 0, none⟩) (code.length + 1) c') (i := 0) hown1 hm3 (by decide)
    rw [List.length_append, List.map_append]
    exact h
  · have h1 : Lib.OthersKept 47 (some q) W w1 := (Lib.OthersKept.refl _ _ W).below hg1
    exact (h1.trans (others_append (some q) M1.own hk3)).setCell ⟨q, 0, none⟩ rfl _

set_option maxRecDepth 100000 in
set_option maxHeartbeats 4000000 in
theorem put_rrr (ob x0 x1 x2 : ByteArray) (f0 f1 f2 : Nat) (q b off c : Nat) (line : Int) (code : List UInt32) (A : Option Addr) (k : Nat) (O : Int) (x : UInt32) (W : World)
    (hS : ∀ W, Calls Tryd.prog 36 #[.string ob] W fun e w' => e = .returned (.string ⟨#[114, 114, 114]⟩) ∧ w' = W) (hO : Hid (opI ob.data.toList = O))
    (n1 : (ob.toList == [46, 100, 97, 116, 97]) = false) (n2 : (ob.toList == [46, 119, 111, 114, 100]) = false)
    (h0 : regA x0.data.toList = some f0)
    (h1 : regA x1.data.toList = some f1)
    (h2 : regA x2.data.toList = some f2)
    (hr : rightI O (f0 : Nat) (f1 : Nat) (f2 : Nat) = true) (hx : Hid ((x.toNat : Int) = encI O (f0 : Nat) (f1 : Nat) (f2 : Nat))) (hM : Md q code A k W) (hc : code.length ≤ 1000) (hb : b < W.heap.size)
    (c0 : W.cell? ⟨b, off, none⟩ = some (.string x0))
    (c1 : W.cell? ⟨b, off + 1, none⟩ = some (.string x1))
    (c2 : W.cell? ⟨b, off + 2, none⟩ = some (.string x2)) :
    Calls Tryd.prog 21 #[.pointer (some ⟨q, 0, none⟩), .string ob, .slice (some ⟨b, off, none⟩) 3 c, .int .i64 line] W fun e w' => e = .returned (.int .i64 0) ∧ (∃ A' k', Md q (code ++ [x]) A' k' w') ∧ Below q W w' ∧ Lib.OthersKept 47 (some q) W w' := by
  obtain ⟨m0, m3, m4, m5, mf⟩ := hM.all
  have hq := hM.m.lt
  have KS := Lib.hid hS
  have KR := Lib.hid ref12_register
  have KN := Lib.hid ref12_number
  have KM := Lib.hid hM
  have KO := Lib.hid ref_Op
  have q3 : ((code.length : Int) == 16384) = false := by rw [beq_eq_false_iff_ne]; omega
  have hp0 : (0 : Int) ≤ f0 := by omega
  have H0 := Lib.hid h0
  have hp1 : (0 : Int) ≤ f1 := by omega
  have H1 := Lib.hid h1
  have hp2 : (0 : Int) ≤ f2 := by omega
  have H2 := Lib.hid h2
  have HR := Lib.hid hr
  clear hS hM hr h0 h1 h2
  have n1' : (ob.toList = [46, 100, 97, 116, 97]) = False := eq_false (by simpa using n1)
  have n2' : (ob.toList = [46, 119, 111, 114, 100]) = False := eq_false (by simpa using n2)
  have s0 : ((((⟨#[114, 114, 114]⟩ : ByteArray)[0]'(by decide)).toNat : Int) == 114) = true := by decide
  have s1 : ((((⟨#[114, 114, 114]⟩ : ByteArray)[1]'(by decide)).toNat : Int) == 114) = true := by decide
  have s2 : ((((⟨#[114, 114, 114]⟩ : ByteArray)[2]'(by decide)).toNat : Int) == 114) = true := by decide
  go_enter Tryd.func21, Tryd.ntmps21
  go_wp2_with fail
  refine (KS.out _).mono ?_
  rintro e w1 ⟨rfl, hw1⟩
  subst w1
  go_wp2_with fail
  refine wp_loop_rounds 4 ?_
  rw [rounds_succ]
  go_wp2_with fail
  refine (KR.out x0 f0 _ H0.out).mono ?_
  rintro e w1 ⟨rfl, hw1⟩
  subst w1
  go_wp2_with fail
  rw [rounds_succ]
  go_wp2_with fail
  refine (KR.out x1 f1 _ H1.out).mono ?_
  rintro e w1 ⟨rfl, hw1⟩
  subst w1
  go_wp2_with fail
  rw [rounds_succ]
  go_wp2_with fail
  refine (KR.out x2 f2 _ H2.out).mono ?_
  rintro e w1 ⟨rfl, hw1⟩
  subst w1
  go_wp2_with fail
  rw [rounds_succ]
  go_wp2_with fail
  refine (KO.out _ _).mono ?_
  rw [hO.out]
  rintro e w1 ⟨rfl, hw1⟩
  subst w1
  go_wp2_with fail
  go_region
  go_wp2_with fail
  refine (ref_Encode O f0 f1 f2 _ HR.out).mono ?_
  rw [← hx.out]
  have hg0 : Below W.heap.size W ((W.alloc (Obj.cells #[.int .i64 f0, .int .i64 f1, .int .i64 f2] 75)).alloc (Obj.cells #[.int .i64 O, .int .i64 f0, .int .i64 f1, .int .i64 f2] 49)).drew := below_two W _ _
  generalize World.drew _ = V at hg0 ⊢
  rintro e w1 ⟨rfl, hb1⟩
  have hg1 := hg0.trans (hb1.mono hg0.size)
  have M1 := KM.out.below hg1
  clear m0 m3 m4 m5 mf hg0 hb1 c0 c1 c2
  obtain ⟨m0, -, -, -, mf⟩ := M1.all
  have hown := M1.own
  have hz1 := hg1.size
  have hG1 := Lib.hid hg1
  have HM1 := Lib.hid M1
  clear hg1 M1
  go_wp2_with (at_builtin; refine wpList_append_new rfl _ _ 23 rfl q (.int .u32 0) 1 4 Tryd.underlying23 (by kernel_rfl) rfl (by decide) (.slice A code.length k) code.length _ rfl hown 1 rfl rfl (by simp [Value.oneCell']) (by omega) (by omega) (by omega) ?_; intro v1 w3 hown1 hb3 hk3; obtain ⟨g, c', rfl, hgq, hgl, -⟩ := own_form hown1 (by omega); have hm3 := HM1.out.m.keep hk3 hown (by decide); have m3 := hm3.cell 0; have mf3 := hm3.frozen 0; have HK := Lib.hid hk3; clear hk3 m0 mf hm3)
  go_returns
  exact ⟨rfl, md_put hG1.out HM1.out hq hown1 hb3 HK.out⟩

set_option maxRecDepth 100000 in
set_option maxHeartbeats 4000000 in
theorem put_rn (ob x0 x1 : ByteArray) (f0 f1 : Nat) (q b off c : Nat) (line : Int) (code : List UInt32) (A : Option Addr) (k : Nat) (O : Int) (x : UInt32) (W : World)
    (hS : ∀ W, Calls Tryd.prog 36 #[.string ob] W fun e w' => e = .returned (.string ⟨#[114, 110]⟩) ∧ w' = W) (hO : Hid (opI ob.data.toList = O))
    (n1 : (ob.toList == [46, 100, 97, 116, 97]) = false) (n2 : (ob.toList == [46, 119, 111, 114, 100]) = false)
    (h0 : regA x0.data.toList = some f0)
    (h1 : numA x1.data.toList = some f1)
    (hr : rightI O (f0 : Nat) 0 (f1 : Nat) = true) (hx : Hid ((x.toNat : Int) = encI O (f0 : Nat) 0 (f1 : Nat))) (hM : Md q code A k W) (hc : code.length ≤ 1000) (hb : b < W.heap.size)
    (c0 : W.cell? ⟨b, off, none⟩ = some (.string x0))
    (c1 : W.cell? ⟨b, off + 1, none⟩ = some (.string x1)) :
    Calls Tryd.prog 21 #[.pointer (some ⟨q, 0, none⟩), .string ob, .slice (some ⟨b, off, none⟩) 2 c, .int .i64 line] W fun e w' => e = .returned (.int .i64 0) ∧ (∃ A' k', Md q (code ++ [x]) A' k' w') ∧ Below q W w' ∧ Lib.OthersKept 47 (some q) W w' := by
  obtain ⟨m0, m3, m4, m5, mf⟩ := hM.all
  have hq := hM.m.lt
  have KS := Lib.hid hS
  have KR := Lib.hid ref12_register
  have KN := Lib.hid ref12_number
  have KM := Lib.hid hM
  have KO := Lib.hid ref_Op
  have q3 : ((code.length : Int) == 16384) = false := by rw [beq_eq_false_iff_ne]; omega
  have hp0 : (0 : Int) ≤ f0 := by omega
  have H0 := Lib.hid h0
  have hp1 : (0 : Int) ≤ f1 := by omega
  have hu1 : (f1 : Int) ≤ 65535 := by obtain ⟨_, _, _, _, _, _, _, _, h⟩ := numA_some h1; omega
  have H1 := Lib.hid h1
  have HR := Lib.hid hr
  clear hS hM hr h0 h1
  have n1' : (ob.toList = [46, 100, 97, 116, 97]) = False := eq_false (by simpa using n1)
  have n2' : (ob.toList = [46, 119, 111, 114, 100]) = False := eq_false (by simpa using n2)
  have s0 : ((((⟨#[114, 110]⟩ : ByteArray)[0]'(by decide)).toNat : Int) == 114) = true := by decide
  have s1 : ((((⟨#[114, 110]⟩ : ByteArray)[1]'(by decide)).toNat : Int) == 114) = false := by decide
  go_enter Tryd.func21, Tryd.ntmps21
  go_wp2_with fail
  refine (KS.out _).mono ?_
  rintro e w1 ⟨rfl, hw1⟩
  subst w1
  go_wp2_with fail
  refine wp_loop_rounds 3 ?_
  rw [rounds_succ]
  go_wp2_with fail
  refine (KR.out x0 f0 _ H0.out).mono ?_
  rintro e w1 ⟨rfl, hw1⟩
  subst w1
  go_wp2_with fail
  rw [rounds_succ]
  go_wp2_with fail
  refine (KN.out x1 f1 _ H1.out).mono ?_
  rintro e w1 ⟨rfl, hw1⟩
  subst w1
  go_wp2_with fail
  rw [rounds_succ]
  go_wp2_with fail
  refine (KO.out _ _).mono ?_
  rw [hO.out]
  rintro e w1 ⟨rfl, hw1⟩
  subst w1
  go_wp2_with fail
  go_region
  go_wp2_with fail
  refine (ref_Encode O f0 0 f1 _ HR.out).mono ?_
  rw [← hx.out]
  have hg0 : Below W.heap.size W ((W.alloc (Obj.cells #[.int .i64 f0, .int .i64 f1, .int .i64 0] 75)).alloc (Obj.cells #[.int .i64 O, .int .i64 f0, .int .i64 0, .int .i64 f1] 49)).drew := below_two W _ _
  generalize World.drew _ = V at hg0 ⊢
  rintro e w1 ⟨rfl, hb1⟩
  have hg1 := hg0.trans (hb1.mono hg0.size)
  have M1 := KM.out.below hg1
  clear m0 m3 m4 m5 mf hg0 hb1 c0 c1
  obtain ⟨m0, -, -, -, mf⟩ := M1.all
  have hown := M1.own
  have hz1 := hg1.size
  have hG1 := Lib.hid hg1
  have HM1 := Lib.hid M1
  clear hg1 M1
  go_wp2_with (at_builtin; refine wpList_append_new rfl _ _ 23 rfl q (.int .u32 0) 1 4 Tryd.underlying23 (by kernel_rfl) rfl (by decide) (.slice A code.length k) code.length _ rfl hown 1 rfl rfl (by simp [Value.oneCell']) (by omega) (by omega) (by omega) ?_; intro v1 w3 hown1 hb3 hk3; obtain ⟨g, c', rfl, hgq, hgl, -⟩ := own_form hown1 (by omega); have hm3 := HM1.out.m.keep hk3 hown (by decide); have m3 := hm3.cell 0; have mf3 := hm3.frozen 0; have HK := Lib.hid hk3; clear hk3 m0 mf hm3)
  go_returns
  exact ⟨rfl, md_put hG1.out HM1.out hq hown1 hb3 HK.out⟩

set_option maxRecDepth 100000 in
set_option maxHeartbeats 4000000 in
theorem put_n (ob x0 : ByteArray) (f0 : Nat) (q b off c : Nat) (line : Int) (code : List UInt32) (A : Option Addr) (k : Nat) (O : Int) (x : UInt32) (W : World)
    (hS : ∀ W, Calls Tryd.prog 36 #[.string ob] W fun e w' => e = .returned (.string ⟨#[110]⟩) ∧ w' = W) (hO : Hid (opI ob.data.toList = O))
    (n1 : (ob.toList == [46, 100, 97, 116, 97]) = false) (n2 : (ob.toList == [46, 119, 111, 114, 100]) = false)
    (h0 : numA x0.data.toList = some f0)
    (hr : rightI O 0 0 (f0 : Nat) = true) (hx : Hid ((x.toNat : Int) = encI O 0 0 (f0 : Nat))) (hM : Md q code A k W) (hc : code.length ≤ 1000) (hb : b < W.heap.size)
    (c0 : W.cell? ⟨b, off, none⟩ = some (.string x0)) :
    Calls Tryd.prog 21 #[.pointer (some ⟨q, 0, none⟩), .string ob, .slice (some ⟨b, off, none⟩) 1 c, .int .i64 line] W fun e w' => e = .returned (.int .i64 0) ∧ (∃ A' k', Md q (code ++ [x]) A' k' w') ∧ Below q W w' ∧ Lib.OthersKept 47 (some q) W w' := by
  obtain ⟨m0, m3, m4, m5, mf⟩ := hM.all
  have hq := hM.m.lt
  have KS := Lib.hid hS
  have KR := Lib.hid ref12_register
  have KN := Lib.hid ref12_number
  have KM := Lib.hid hM
  have KO := Lib.hid ref_Op
  have q3 : ((code.length : Int) == 16384) = false := by rw [beq_eq_false_iff_ne]; omega
  have hp0 : (0 : Int) ≤ f0 := by omega
  have hu0 : (f0 : Int) ≤ 65535 := by obtain ⟨_, _, _, _, _, _, _, _, h⟩ := numA_some h0; omega
  have H0 := Lib.hid h0
  have HR := Lib.hid hr
  clear hS hM hr h0
  have n1' : (ob.toList = [46, 100, 97, 116, 97]) = False := eq_false (by simpa using n1)
  have n2' : (ob.toList = [46, 119, 111, 114, 100]) = False := eq_false (by simpa using n2)
  have s0 : ((((⟨#[110]⟩ : ByteArray)[0]'(by decide)).toNat : Int) == 114) = false := by decide
  go_enter Tryd.func21, Tryd.ntmps21
  go_wp2_with fail
  refine (KS.out _).mono ?_
  rintro e w1 ⟨rfl, hw1⟩
  subst w1
  go_wp2_with fail
  refine wp_loop_rounds 2 ?_
  rw [rounds_succ]
  go_wp2_with fail
  refine (KN.out x0 f0 _ H0.out).mono ?_
  rintro e w1 ⟨rfl, hw1⟩
  subst w1
  go_wp2_with fail
  rw [rounds_succ]
  go_wp2_with fail
  refine (KO.out _ _).mono ?_
  rw [hO.out]
  rintro e w1 ⟨rfl, hw1⟩
  subst w1
  go_wp2_with fail
  refine (ref_Encode O 0 0 f0 _ HR.out).mono ?_
  rw [← hx.out]
  have hg0 : Below W.heap.size W ((W.alloc (Obj.cells #[.int .i64 f0, .int .i64 0, .int .i64 0] 75)).alloc (Obj.cells #[.int .i64 O, .int .i64 0, .int .i64 0, .int .i64 f0] 49)) := below_two' W _ _
  generalize World.alloc (World.alloc _ _) _ = V at hg0 ⊢
  rintro e w1 ⟨rfl, hb1⟩
  have hg1 := hg0.trans (hb1.mono hg0.size)
  have M1 := KM.out.below hg1
  clear m0 m3 m4 m5 mf hg0 hb1 c0
  obtain ⟨m0, -, -, -, mf⟩ := M1.all
  have hown := M1.own
  have hz1 := hg1.size
  have hG1 := Lib.hid hg1
  have HM1 := Lib.hid M1
  clear hg1 M1
  go_wp2_with (at_builtin; refine wpList_append_new rfl _ _ 23 rfl q (.int .u32 0) 1 4 Tryd.underlying23 (by kernel_rfl) rfl (by decide) (.slice A code.length k) code.length _ rfl hown 1 rfl rfl (by simp [Value.oneCell']) (by omega) (by omega) (by omega) ?_; intro v1 w3 hown1 hb3 hk3; obtain ⟨g, c', rfl, hgq, hgl, -⟩ := own_form hown1 (by omega); have hm3 := HM1.out.m.keep hk3 hown (by decide); have m3 := hm3.cell 0; have mf3 := hm3.frozen 0; have HK := Lib.hid hk3; clear hk3 m0 mf hm3)
  go_returns
  exact ⟨rfl, md_put hG1.out HM1.out hq hown1 hb3 HK.out⟩

set_option maxRecDepth 100000 in
set_option maxHeartbeats 4000000 in
theorem put_r (ob x0 : ByteArray) (f0 : Nat) (q b off c : Nat) (line : Int) (code : List UInt32) (A : Option Addr) (k : Nat) (O : Int) (x : UInt32) (W : World)
    (hS : ∀ W, Calls Tryd.prog 36 #[.string ob] W fun e w' => e = .returned (.string ⟨#[114]⟩) ∧ w' = W) (hO : Hid (opI ob.data.toList = O))
    (n1 : (ob.toList == [46, 100, 97, 116, 97]) = false) (n2 : (ob.toList == [46, 119, 111, 114, 100]) = false)
    (h0 : regA x0.data.toList = some f0)
    (hr : rightI O (f0 : Nat) 0 0 = true) (hx : Hid ((x.toNat : Int) = encI O (f0 : Nat) 0 0)) (hM : Md q code A k W) (hc : code.length ≤ 1000) (hb : b < W.heap.size)
    (c0 : W.cell? ⟨b, off, none⟩ = some (.string x0)) :
    Calls Tryd.prog 21 #[.pointer (some ⟨q, 0, none⟩), .string ob, .slice (some ⟨b, off, none⟩) 1 c, .int .i64 line] W fun e w' => e = .returned (.int .i64 0) ∧ (∃ A' k', Md q (code ++ [x]) A' k' w') ∧ Below q W w' ∧ Lib.OthersKept 47 (some q) W w' := by
  obtain ⟨m0, m3, m4, m5, mf⟩ := hM.all
  have hq := hM.m.lt
  have KS := Lib.hid hS
  have KR := Lib.hid ref12_register
  have KN := Lib.hid ref12_number
  have KM := Lib.hid hM
  have KO := Lib.hid ref_Op
  have q3 : ((code.length : Int) == 16384) = false := by rw [beq_eq_false_iff_ne]; omega
  have hp0 : (0 : Int) ≤ f0 := by omega
  have H0 := Lib.hid h0
  have HR := Lib.hid hr
  clear hS hM hr h0
  have n1' : (ob.toList = [46, 100, 97, 116, 97]) = False := eq_false (by simpa using n1)
  have n2' : (ob.toList = [46, 119, 111, 114, 100]) = False := eq_false (by simpa using n2)
  have s0 : ((((⟨#[114]⟩ : ByteArray)[0]'(by decide)).toNat : Int) == 114) = true := by decide
  go_enter Tryd.func21, Tryd.ntmps21
  go_wp2_with fail
  refine (KS.out _).mono ?_
  rintro e w1 ⟨rfl, hw1⟩
  subst w1
  go_wp2_with fail
  refine wp_loop_rounds 2 ?_
  rw [rounds_succ]
  go_wp2_with fail
  refine (KR.out x0 f0 _ H0.out).mono ?_
  rintro e w1 ⟨rfl, hw1⟩
  subst w1
  go_wp2_with fail
  rw [rounds_succ]
  go_wp2_with fail
  refine (KO.out _ _).mono ?_
  rw [hO.out]
  rintro e w1 ⟨rfl, hw1⟩
  subst w1
  go_wp2_with fail
  go_region
  go_wp2_with fail
  refine (ref_Encode O f0 0 0 _ HR.out).mono ?_
  rw [← hx.out]
  have hg0 : Below W.heap.size W ((W.alloc (Obj.cells #[.int .i64 f0, .int .i64 0, .int .i64 0] 75)).alloc (Obj.cells #[.int .i64 O, .int .i64 f0, .int .i64 0, .int .i64 0] 49)).drew := below_two W _ _
  generalize World.drew _ = V at hg0 ⊢
  rintro e w1 ⟨rfl, hb1⟩
  have hg1 := hg0.trans (hb1.mono hg0.size)
  have M1 := KM.out.below hg1
  clear m0 m3 m4 m5 mf hg0 hb1 c0
  obtain ⟨m0, -, -, -, mf⟩ := M1.all
  have hown := M1.own
  have hz1 := hg1.size
  have hG1 := Lib.hid hg1
  have HM1 := Lib.hid M1
  clear hg1 M1
  go_wp2_with (at_builtin; refine wpList_append_new rfl _ _ 23 rfl q (.int .u32 0) 1 4 Tryd.underlying23 (by kernel_rfl) rfl (by decide) (.slice A code.length k) code.length _ rfl hown 1 rfl rfl (by simp [Value.oneCell']) (by omega) (by omega) (by omega) ?_; intro v1 w3 hown1 hb3 hk3; obtain ⟨g, c', rfl, hgq, hgl, -⟩ := own_form hown1 (by omega); have hm3 := HM1.out.m.keep hk3 hown (by decide); have m3 := hm3.cell 0; have mf3 := hm3.frozen 0; have HK := Lib.hid hk3; clear hk3 m0 mf hm3)
  go_returns
  exact ⟨rfl, md_put hG1.out HM1.out hq hown1 hb3 HK.out⟩

set_option maxRecDepth 100000 in
set_option maxHeartbeats 4000000 in
theorem put_h (ob : ByteArray) (q c : Nat) (line : Int) (code : List UInt32) (A : Option Addr) (Z : Option Addr) (k : Nat) (O : Int) (x : UInt32) (W : World)
    (hS : ∀ W, Calls Tryd.prog 36 #[.string ob] W fun e w' => e = .returned (.string ⟨#[]⟩) ∧ w' = W) (hO : Hid (opI ob.data.toList = O))
    (n1 : (ob.toList == [46, 100, 97, 116, 97]) = false) (n2 : (ob.toList == [46, 119, 111, 114, 100]) = false)
    (hr : rightI O 0 0 0 = true) (hx : Hid ((x.toNat : Int) = encI O 0 0 0)) (hM : Md q code A k W) (hc : code.length ≤ 1000) :
    Calls Tryd.prog 21 #[.pointer (some ⟨q, 0, none⟩), .string ob, .slice Z 0 c, .int .i64 line] W fun e w' => e = .returned (.int .i64 0) ∧ (∃ A' k', Md q (code ++ [x]) A' k' w') ∧ Below q W w' ∧ Lib.OthersKept 47 (some q) W w' := by
  obtain ⟨m0, m3, m4, m5, mf⟩ := hM.all
  have hq := hM.m.lt
  have KS := Lib.hid hS
  have KR := Lib.hid ref12_register
  have KN := Lib.hid ref12_number
  have KM := Lib.hid hM
  have KO := Lib.hid ref_Op
  have q3 : ((code.length : Int) == 16384) = false := by rw [beq_eq_false_iff_ne]; omega
  have HR := Lib.hid hr
  clear hS hM hr
  have n1' : (ob.toList = [46, 100, 97, 116, 97]) = False := eq_false (by simpa using n1)
  have n2' : (ob.toList = [46, 119, 111, 114, 100]) = False := eq_false (by simpa using n2)
  go_enter Tryd.func21, Tryd.ntmps21
  go_wp2_with fail
  refine (KS.out _).mono ?_
  rintro e w1 ⟨rfl, hw1⟩
  subst w1
  go_wp2_with fail
  refine wp_loop_rounds 1 ?_
  rw [rounds_succ]
  go_wp2_with fail
  refine (KO.out _ _).mono ?_
  rw [hO.out]
  rintro e w1 ⟨rfl, hw1⟩
  subst w1
  go_wp2_with fail
  go_region
  go_wp2_with fail
  refine (ref_Encode O 0 0 0 _ HR.out).mono ?_
  rw [← hx.out]
  have hg0 : Below W.heap.size W ((W.alloc (Obj.cells #[.int .i64 0, .int .i64 0, .int .i64 0] 75)).alloc (Obj.cells #[.int .i64 O, .int .i64 0, .int .i64 0, .int .i64 0] 49)).drew := below_two W _ _
  generalize World.drew _ = V at hg0 ⊢
  rintro e w1 ⟨rfl, hb1⟩
  have hg1 := hg0.trans (hb1.mono hg0.size)
  have M1 := KM.out.below hg1
  clear m0 m3 m4 m5 mf hg0 hb1
  obtain ⟨m0, -, -, -, mf⟩ := M1.all
  have hown := M1.own
  have hz1 := hg1.size
  have hG1 := Lib.hid hg1
  have HM1 := Lib.hid M1
  clear hg1 M1
  go_wp2_with (at_builtin; refine wpList_append_new rfl _ _ 23 rfl q (.int .u32 0) 1 4 Tryd.underlying23 (by kernel_rfl) rfl (by decide) (.slice A code.length k) code.length _ rfl hown 1 rfl rfl (by simp [Value.oneCell']) (by omega) (by omega) (by omega) ?_; intro v1 w3 hown1 hb3 hk3; obtain ⟨g, c', rfl, hgq, hgl, -⟩ := own_form hown1 (by omega); have hm3 := HM1.out.m.keep hk3 hown (by decide); have m3 := hm3.cell 0; have mf3 := hm3.frozen 0; have HK := Lib.hid hk3; clear hk3 m0 mf hm3)
  go_returns
  exact ⟨rfl, md_put hG1.out HM1.out hq hown1 hb3 HK.out⟩

end Go.Proofs.YthfdjfgmgoafnaaDoor
