/- Layer 7: an instruction's text, walked. -/
/- Layer 7: an instruction's text, whatever it is; and the document's number. -/
import Derived.Test.YtknonabeagbjeaaGreatDoorInJ
namespace Go.Proofs.YtknonabeagbjeaaGreatDoor
open Go.RowKit

def rS : ByteArray := ⟨#[114]⟩
def emS : ByteArray := ⟨#[]⟩
def spS : ByteArray := ⟨#[32]⟩
def restS (t s : ByteArray) : List (ByteArray × Nat) → ByteArray
  | [] => t
  | (p, n) :: r => restS (partS t s p n) commaS r
def fieldsB (A B : Bool) (C : Int) (a b c : Nat) : List (ByteArray × Nat) :=
  (if A then [(rS, a)] else []) ++ ((if B then [(rS, b)] else []) ++ (if C = 1 then [(emS, c)] else if C = 2 then [(rS, c)] else []))
theorem partS_size (t s pre : ByteArray) (n : Nat) (hn : n ≤ 65535) : (partS t s pre n).size ≤ t.size + s.size + pre.size + 21 := by
  have h := itoa_size n hn
  unfold partS
  rw [ba_append_size, ba_append_size, ba_append_size]
  omega

/-- What the walk of a text holds: the instruction's box, the shape's, the text's, and what stands between. -/
structure Tb (w : World) (op a b c : Int) (N : ByteArray) (A B : Bool) (C : Int) (g : Nat) (t s : ByteArray) (W : World) : Prop where
  ins : Ib w op a b c W
  sh : Blk W g 86 #[.string N, .bool A, .bool B, .int .i64 C]
  tx : Blk W (g + 1) 9 #[.string t]
  be : Blk W (g + 1 + 1) 9 #[.string s]
  lt : w.heap.size < g
section
variable {w W W' : World} {op a b c C : Int} {N : ByteArray} {A B : Bool} {g : Nat} {t s t' s' : ByteArray}
theorem Tb.new (h : Ib w op a b c W) : Tb w op a b c N A B C W.heap.size t s (((W.alloc (.cells #[.string N, .bool A, .bool B, .int .i64 C] 86)).alloc (.cells #[.string t] 9)).alloc (.cells #[.string s] 9)) where
  ins := ((h.alloc _).alloc _).alloc _
  sh := ((Blk.new W _ _).alloc _).alloc _
  tx := by
    have h2 := (Blk.new (W.alloc (.cells #[.string N, .bool A, .bool B, .int .i64 C] 86)) 9 #[.string t]).alloc (.cells #[.string s] 9)
    simpa using h2
  be := by
    have h2 := Blk.new ((W.alloc (.cells #[.string N, .bool A, .bool B, .int .i64 C] 86)).alloc (.cells #[.string t] 9)) 9 #[.string s]
    simpa using h2
  lt := h.x.lt
theorem Tb.part (h : Tb w op a b c N A B C g t s W) (ht : Blk W' (g + 1) 9 #[.string t']) (hs : Blk W' (g + 1 + 1) 9 #[.string s']) (hb : Below (g + 1) W W') : Tb w op a b c N A B C g t' s' W' where
  ins := ⟨h.ins.x.below hb (Nat.lt_succ_of_lt h.lt), h.ins.bel.trans (hb.mono (by have := h.lt; omega))⟩
  sh := h.sh.below hb (Nat.lt_succ_self g)
  tx := ht
  be := hs
  lt := h.lt
theorem Tb.all (h : Tb w op a b c N A B C g t s W) : (W.cell? ⟨w.heap.size, 0, none⟩ = some (.int .i64 op) ∧ W.cell? ⟨w.heap.size, 1, none⟩ = some (.int .i64 a) ∧ W.cell? ⟨w.heap.size, 2, none⟩ = some (.int .i64 b) ∧ W.cell? ⟨w.heap.size, 3, none⟩ = some (.int .i64 c)) ∧ W.cell? ⟨g, 1, none⟩ = some (.bool A) ∧ W.cell? ⟨g, 2, none⟩ = some (.bool B) ∧ W.cell? ⟨g, 3, none⟩ = some (.int .i64 C) ∧ W.cell? ⟨g + 1, 0, none⟩ = some (.string t) :=
  ⟨h.ins.all, h.sh.cell 1, h.sh.cell 2, h.sh.cell 3, h.tx.cell 0⟩
end

set_option maxHeartbeats 2000000 in
theorem inst_Text_ac (op : Int) (a b c : Nat) (N : ByteArray) (w : World) (hN : N.size ≤ 4) (ha : a ≤ 65535) (_hb : b ≤ 65535) (hc : c ≤ 65535) (hp : Pow10 w)
    (KR : Hid (∀ W, Calls Tryz.prog 46 #[.agg #[.int .i64 op, .int .i64 a, .int .i64 b, .int .i64 c]] W fun e w' => e = .returned (.bool true) ∧ Below W.heap.size W w'))
    (KS : Hid (∀ W, Calls Tryz.prog 40 #[.int .i64 op] W fun e w' => e = .returned (.agg #[.string N, .bool true, .bool false, .int .i64 1]) ∧ Below W.heap.size W w')) :
    Calls Tryz.prog 27 #[.agg #[.int .i64 op, .int .i64 a, .int .i64 b, .int .i64 c]] w fun e w' => e = .returned (.string (restS N spS (fieldsB true false 1 a b c))) ∧ Below w.heap.size w w' := by
  have hI := Ib.new w op a b c
  have hfld := shape_name N true false 1
  have hs0 : (⟨#[32]⟩ : ByteArray).size ≤ 2 := by decide
  have hs1 : commaS.size ≤ 2 := by decide
  have hr : (⟨#[114]⟩ : ByteArray).size ≤ 1 := by decide
  have he : (⟨#[]⟩ : ByteArray).size ≤ 1 := by decide
  go_enter Tryz.func27, Tryz.ntmps27
  go_wp2_with fail
  refine (KR.out _).mono ?_
  rintro e w1 ⟨rfl, hb1⟩
  have h1 := hI.below hb1
  obtain ⟨i0, i1, i2, i3⟩ := h1.all
  clear hb1 hI
  go_wp2_with fail
  refine (KS.out _).mono ?_
  rintro e w2 ⟨rfl, hb2⟩
  have h2 := h1.below hb2
  clear h1 i0 i1 i2 i3 hb2
  have hT0 := Tb.new (N := N) (A := true) (B := false) (C := 1) (t := N) (s := ⟨#[32]⟩) h2
  obtain ⟨⟨j0, j1, j2, j3⟩, s1, s2, s3, jt⟩ := hT0.all
  go_wp2_with fail
  refine (inst_part _ _ _ _ _ a _ (Nat.lt_succ_self _) hT0.tx hT0.be (hp.below hT0.ins.bel) (by omega) hs0 hr ha).mono ?_
  rintro e w3 ⟨rfl, ht, hs, hbb⟩
  have hT1 := hT0.part ht hs hbb
  have z0 := partS_size N ⟨#[32]⟩ ⟨#[114]⟩ a ha
  clear ht hs hbb j0 j1 j2 j3 s1 s2 s3 jt
  obtain ⟨⟨j0, j1, j2, j3⟩, s1, s2, s3, jt⟩ := hT1.all
  go_wp2_with fail
  refine (inst_part _ _ _ _ _ c _ (Nat.lt_succ_self _) hT1.tx hT1.be (hp.below hT1.ins.bel) (by omega) hs1 he hc).mono ?_
  rintro e w4 ⟨rfl, ht, hs, hbb⟩
  have hT2 := hT1.part ht hs hbb
  have z1 := partS_size (partS N ⟨#[32]⟩ ⟨#[114]⟩ a) commaS ⟨#[]⟩ c hc
  clear ht hs hbb j0 j1 j2 j3 s1 s2 s3 jt
  obtain ⟨⟨j0, j1, j2, j3⟩, s1, s2, s3, jt⟩ := hT2.all
  go_wp2_with fail
  go_returns
  exact ⟨rfl, hT2.ins.bel⟩

set_option maxHeartbeats 2000000 in
theorem inst_Text_ab (op : Int) (a b c : Nat) (N : ByteArray) (w : World) (hN : N.size ≤ 4) (ha : a ≤ 65535) (hb : b ≤ 65535) (_hc : c ≤ 65535) (hp : Pow10 w)
    (KR : Hid (∀ W, Calls Tryz.prog 46 #[.agg #[.int .i64 op, .int .i64 a, .int .i64 b, .int .i64 c]] W fun e w' => e = .returned (.bool true) ∧ Below W.heap.size W w'))
    (KS : Hid (∀ W, Calls Tryz.prog 40 #[.int .i64 op] W fun e w' => e = .returned (.agg #[.string N, .bool true, .bool true, .int .i64 0]) ∧ Below W.heap.size W w')) :
    Calls Tryz.prog 27 #[.agg #[.int .i64 op, .int .i64 a, .int .i64 b, .int .i64 c]] w fun e w' => e = .returned (.string (restS N spS (fieldsB true true 0 a b c))) ∧ Below w.heap.size w w' := by
  have hI := Ib.new w op a b c
  have hfld := shape_name N true true 0
  have hs0 : (⟨#[32]⟩ : ByteArray).size ≤ 2 := by decide
  have hs1 : commaS.size ≤ 2 := by decide
  have hr : (⟨#[114]⟩ : ByteArray).size ≤ 1 := by decide
  have he : (⟨#[]⟩ : ByteArray).size ≤ 1 := by decide
  go_enter Tryz.func27, Tryz.ntmps27
  go_wp2_with fail
  refine (KR.out _).mono ?_
  rintro e w1 ⟨rfl, hb1⟩
  have h1 := hI.below hb1
  obtain ⟨i0, i1, i2, i3⟩ := h1.all
  clear hb1 hI
  go_wp2_with fail
  refine (KS.out _).mono ?_
  rintro e w2 ⟨rfl, hb2⟩
  have h2 := h1.below hb2
  clear h1 i0 i1 i2 i3 hb2
  have hT0 := Tb.new (N := N) (A := true) (B := true) (C := 0) (t := N) (s := ⟨#[32]⟩) h2
  obtain ⟨⟨j0, j1, j2, j3⟩, s1, s2, s3, jt⟩ := hT0.all
  go_wp2_with fail
  refine (inst_part _ _ _ _ _ a _ (Nat.lt_succ_self _) hT0.tx hT0.be (hp.below hT0.ins.bel) (by omega) hs0 hr ha).mono ?_
  rintro e w3 ⟨rfl, ht, hs, hbb⟩
  have hT1 := hT0.part ht hs hbb
  have z0 := partS_size N ⟨#[32]⟩ ⟨#[114]⟩ a ha
  clear ht hs hbb j0 j1 j2 j3 s1 s2 s3 jt
  obtain ⟨⟨j0, j1, j2, j3⟩, s1, s2, s3, jt⟩ := hT1.all
  go_wp2_with fail
  refine (inst_part _ _ _ _ _ b _ (Nat.lt_succ_self _) hT1.tx hT1.be (hp.below hT1.ins.bel) (by omega) hs1 hr hb).mono ?_
  rintro e w4 ⟨rfl, ht, hs, hbb⟩
  have hT2 := hT1.part ht hs hbb
  have z1 := partS_size (partS N ⟨#[32]⟩ ⟨#[114]⟩ a) commaS ⟨#[114]⟩ b hb
  clear ht hs hbb j0 j1 j2 j3 s1 s2 s3 jt
  obtain ⟨⟨j0, j1, j2, j3⟩, s1, s2, s3, jt⟩ := hT2.all
  go_wp2_with fail
  go_returns
  exact ⟨rfl, hT2.ins.bel⟩

set_option maxHeartbeats 2000000 in
theorem inst_Text_abr (op : Int) (a b c : Nat) (N : ByteArray) (w : World) (hN : N.size ≤ 4) (ha : a ≤ 65535) (hb : b ≤ 65535) (hc : c ≤ 65535) (hp : Pow10 w)
    (KR : Hid (∀ W, Calls Tryz.prog 46 #[.agg #[.int .i64 op, .int .i64 a, .int .i64 b, .int .i64 c]] W fun e w' => e = .returned (.bool true) ∧ Below W.heap.size W w'))
    (KS : Hid (∀ W, Calls Tryz.prog 40 #[.int .i64 op] W fun e w' => e = .returned (.agg #[.string N, .bool true, .bool true, .int .i64 2]) ∧ Below W.heap.size W w')) :
    Calls Tryz.prog 27 #[.agg #[.int .i64 op, .int .i64 a, .int .i64 b, .int .i64 c]] w fun e w' => e = .returned (.string (restS N spS (fieldsB true true 2 a b c))) ∧ Below w.heap.size w w' := by
  have hI := Ib.new w op a b c
  have hfld := shape_name N true true 2
  have hs0 : (⟨#[32]⟩ : ByteArray).size ≤ 2 := by decide
  have hs1 : commaS.size ≤ 2 := by decide
  have hr : (⟨#[114]⟩ : ByteArray).size ≤ 1 := by decide
  have he : (⟨#[]⟩ : ByteArray).size ≤ 1 := by decide
  go_enter Tryz.func27, Tryz.ntmps27
  go_wp2_with fail
  refine (KR.out _).mono ?_
  rintro e w1 ⟨rfl, hb1⟩
  have h1 := hI.below hb1
  obtain ⟨i0, i1, i2, i3⟩ := h1.all
  clear hb1 hI
  go_wp2_with fail
  refine (KS.out _).mono ?_
  rintro e w2 ⟨rfl, hb2⟩
  have h2 := h1.below hb2
  clear h1 i0 i1 i2 i3 hb2
  have hT0 := Tb.new (N := N) (A := true) (B := true) (C := 2) (t := N) (s := ⟨#[32]⟩) h2
  obtain ⟨⟨j0, j1, j2, j3⟩, s1, s2, s3, jt⟩ := hT0.all
  go_wp2_with fail
  refine (inst_part _ _ _ _ _ a _ (Nat.lt_succ_self _) hT0.tx hT0.be (hp.below hT0.ins.bel) (by omega) hs0 hr ha).mono ?_
  rintro e w3 ⟨rfl, ht, hs, hbb⟩
  have hT1 := hT0.part ht hs hbb
  have z0 := partS_size N ⟨#[32]⟩ ⟨#[114]⟩ a ha
  clear ht hs hbb j0 j1 j2 j3 s1 s2 s3 jt
  obtain ⟨⟨j0, j1, j2, j3⟩, s1, s2, s3, jt⟩ := hT1.all
  go_wp2_with fail
  refine (inst_part _ _ _ _ _ b _ (Nat.lt_succ_self _) hT1.tx hT1.be (hp.below hT1.ins.bel) (by omega) hs1 hr hb).mono ?_
  rintro e w4 ⟨rfl, ht, hs, hbb⟩
  have hT2 := hT1.part ht hs hbb
  have z1 := partS_size (partS N ⟨#[32]⟩ ⟨#[114]⟩ a) commaS ⟨#[114]⟩ b hb
  clear ht hs hbb j0 j1 j2 j3 s1 s2 s3 jt
  obtain ⟨⟨j0, j1, j2, j3⟩, s1, s2, s3, jt⟩ := hT2.all
  go_wp2_with fail
  refine (inst_part _ _ _ _ _ c _ (Nat.lt_succ_self _) hT2.tx hT2.be (hp.below hT2.ins.bel) (by omega) hs1 hr hc).mono ?_
  rintro e w5 ⟨rfl, ht, hs, hbb⟩
  have hT3 := hT2.part ht hs hbb
  have z2 := partS_size (partS (partS N ⟨#[32]⟩ ⟨#[114]⟩ a) commaS ⟨#[114]⟩ b) commaS ⟨#[114]⟩ c hc
  clear ht hs hbb j0 j1 j2 j3 s1 s2 s3 jt
  obtain ⟨⟨j0, j1, j2, j3⟩, s1, s2, s3, jt⟩ := hT3.all
  go_wp2_with fail
  go_returns
  exact ⟨rfl, hT3.ins.bel⟩

set_option maxHeartbeats 2000000 in
theorem inst_Text_abc (op : Int) (a b c : Nat) (N : ByteArray) (w : World) (hN : N.size ≤ 4) (ha : a ≤ 65535) (hb : b ≤ 65535) (hc : c ≤ 65535) (hp : Pow10 w)
    (KR : Hid (∀ W, Calls Tryz.prog 46 #[.agg #[.int .i64 op, .int .i64 a, .int .i64 b, .int .i64 c]] W fun e w' => e = .returned (.bool true) ∧ Below W.heap.size W w'))
    (KS : Hid (∀ W, Calls Tryz.prog 40 #[.int .i64 op] W fun e w' => e = .returned (.agg #[.string N, .bool true, .bool true, .int .i64 1]) ∧ Below W.heap.size W w')) :
    Calls Tryz.prog 27 #[.agg #[.int .i64 op, .int .i64 a, .int .i64 b, .int .i64 c]] w fun e w' => e = .returned (.string (restS N spS (fieldsB true true 1 a b c))) ∧ Below w.heap.size w w' := by
  have hI := Ib.new w op a b c
  have hfld := shape_name N true true 1
  have hs0 : (⟨#[32]⟩ : ByteArray).size ≤ 2 := by decide
  have hs1 : commaS.size ≤ 2 := by decide
  have hr : (⟨#[114]⟩ : ByteArray).size ≤ 1 := by decide
  have he : (⟨#[]⟩ : ByteArray).size ≤ 1 := by decide
  go_enter Tryz.func27, Tryz.ntmps27
  go_wp2_with fail
  refine (KR.out _).mono ?_
  rintro e w1 ⟨rfl, hb1⟩
  have h1 := hI.below hb1
  obtain ⟨i0, i1, i2, i3⟩ := h1.all
  clear hb1 hI
  go_wp2_with fail
  refine (KS.out _).mono ?_
  rintro e w2 ⟨rfl, hb2⟩
  have h2 := h1.below hb2
  clear h1 i0 i1 i2 i3 hb2
  have hT0 := Tb.new (N := N) (A := true) (B := true) (C := 1) (t := N) (s := ⟨#[32]⟩) h2
  obtain ⟨⟨j0, j1, j2, j3⟩, s1, s2, s3, jt⟩ := hT0.all
  go_wp2_with fail
  refine (inst_part _ _ _ _ _ a _ (Nat.lt_succ_self _) hT0.tx hT0.be (hp.below hT0.ins.bel) (by omega) hs0 hr ha).mono ?_
  rintro e w3 ⟨rfl, ht, hs, hbb⟩
  have hT1 := hT0.part ht hs hbb
  have z0 := partS_size N ⟨#[32]⟩ ⟨#[114]⟩ a ha
  clear ht hs hbb j0 j1 j2 j3 s1 s2 s3 jt
  obtain ⟨⟨j0, j1, j2, j3⟩, s1, s2, s3, jt⟩ := hT1.all
  go_wp2_with fail
  refine (inst_part _ _ _ _ _ b _ (Nat.lt_succ_self _) hT1.tx hT1.be (hp.below hT1.ins.bel) (by omega) hs1 hr hb).mono ?_
  rintro e w4 ⟨rfl, ht, hs, hbb⟩
  have hT2 := hT1.part ht hs hbb
  have z1 := partS_size (partS N ⟨#[32]⟩ ⟨#[114]⟩ a) commaS ⟨#[114]⟩ b hb
  clear ht hs hbb j0 j1 j2 j3 s1 s2 s3 jt
  obtain ⟨⟨j0, j1, j2, j3⟩, s1, s2, s3, jt⟩ := hT2.all
  go_wp2_with fail
  refine (inst_part _ _ _ _ _ c _ (Nat.lt_succ_self _) hT2.tx hT2.be (hp.below hT2.ins.bel) (by omega) hs1 he hc).mono ?_
  rintro e w5 ⟨rfl, ht, hs, hbb⟩
  have hT3 := hT2.part ht hs hbb
  have z2 := partS_size (partS (partS N ⟨#[32]⟩ ⟨#[114]⟩ a) commaS ⟨#[114]⟩ b) commaS ⟨#[]⟩ c hc
  clear ht hs hbb j0 j1 j2 j3 s1 s2 s3 jt
  obtain ⟨⟨j0, j1, j2, j3⟩, s1, s2, s3, jt⟩ := hT3.all
  go_wp2_with fail
  go_returns
  exact ⟨rfl, hT3.ins.bel⟩

set_option maxHeartbeats 2000000 in
theorem inst_Text_c (op : Int) (a b c : Nat) (N : ByteArray) (w : World) (hN : N.size ≤ 4) (_ha : a ≤ 65535) (_hb : b ≤ 65535) (hc : c ≤ 65535) (hp : Pow10 w)
    (KR : Hid (∀ W, Calls Tryz.prog 46 #[.agg #[.int .i64 op, .int .i64 a, .int .i64 b, .int .i64 c]] W fun e w' => e = .returned (.bool true) ∧ Below W.heap.size W w'))
    (KS : Hid (∀ W, Calls Tryz.prog 40 #[.int .i64 op] W fun e w' => e = .returned (.agg #[.string N, .bool false, .bool false, .int .i64 1]) ∧ Below W.heap.size W w')) :
    Calls Tryz.prog 27 #[.agg #[.int .i64 op, .int .i64 a, .int .i64 b, .int .i64 c]] w fun e w' => e = .returned (.string (restS N spS (fieldsB false false 1 a b c))) ∧ Below w.heap.size w w' := by
  have hI := Ib.new w op a b c
  have hfld := shape_name N false false 1
  have hs0 : (⟨#[32]⟩ : ByteArray).size ≤ 2 := by decide
  have hs1 : commaS.size ≤ 2 := by decide
  have hr : (⟨#[114]⟩ : ByteArray).size ≤ 1 := by decide
  have he : (⟨#[]⟩ : ByteArray).size ≤ 1 := by decide
  go_enter Tryz.func27, Tryz.ntmps27
  go_wp2_with fail
  refine (KR.out _).mono ?_
  rintro e w1 ⟨rfl, hb1⟩
  have h1 := hI.below hb1
  obtain ⟨i0, i1, i2, i3⟩ := h1.all
  clear hb1 hI
  go_wp2_with fail
  refine (KS.out _).mono ?_
  rintro e w2 ⟨rfl, hb2⟩
  have h2 := h1.below hb2
  clear h1 i0 i1 i2 i3 hb2
  have hT0 := Tb.new (N := N) (A := false) (B := false) (C := 1) (t := N) (s := ⟨#[32]⟩) h2
  obtain ⟨⟨j0, j1, j2, j3⟩, s1, s2, s3, jt⟩ := hT0.all
  go_wp2_with fail
  refine (inst_part _ _ _ _ _ c _ (Nat.lt_succ_self _) hT0.tx hT0.be (hp.below hT0.ins.bel) (by omega) hs0 he hc).mono ?_
  rintro e w3 ⟨rfl, ht, hs, hbb⟩
  have hT1 := hT0.part ht hs hbb
  have z0 := partS_size N ⟨#[32]⟩ ⟨#[]⟩ c hc
  clear ht hs hbb j0 j1 j2 j3 s1 s2 s3 jt
  obtain ⟨⟨j0, j1, j2, j3⟩, s1, s2, s3, jt⟩ := hT1.all
  go_wp2_with fail
  go_returns
  exact ⟨rfl, hT1.ins.bel⟩

set_option maxHeartbeats 2000000 in
theorem inst_Text_a (op : Int) (a b c : Nat) (N : ByteArray) (w : World) (hN : N.size ≤ 4) (ha : a ≤ 65535) (_hb : b ≤ 65535) (_hc : c ≤ 65535) (hp : Pow10 w)
    (KR : Hid (∀ W, Calls Tryz.prog 46 #[.agg #[.int .i64 op, .int .i64 a, .int .i64 b, .int .i64 c]] W fun e w' => e = .returned (.bool true) ∧ Below W.heap.size W w'))
    (KS : Hid (∀ W, Calls Tryz.prog 40 #[.int .i64 op] W fun e w' => e = .returned (.agg #[.string N, .bool true, .bool false, .int .i64 0]) ∧ Below W.heap.size W w')) :
    Calls Tryz.prog 27 #[.agg #[.int .i64 op, .int .i64 a, .int .i64 b, .int .i64 c]] w fun e w' => e = .returned (.string (restS N spS (fieldsB true false 0 a b c))) ∧ Below w.heap.size w w' := by
  have hI := Ib.new w op a b c
  have hfld := shape_name N true false 0
  have hs0 : (⟨#[32]⟩ : ByteArray).size ≤ 2 := by decide
  have hs1 : commaS.size ≤ 2 := by decide
  have hr : (⟨#[114]⟩ : ByteArray).size ≤ 1 := by decide
  have he : (⟨#[]⟩ : ByteArray).size ≤ 1 := by decide
  go_enter Tryz.func27, Tryz.ntmps27
  go_wp2_with fail
  refine (KR.out _).mono ?_
  rintro e w1 ⟨rfl, hb1⟩
  have h1 := hI.below hb1
  obtain ⟨i0, i1, i2, i3⟩ := h1.all
  clear hb1 hI
  go_wp2_with fail
  refine (KS.out _).mono ?_
  rintro e w2 ⟨rfl, hb2⟩
  have h2 := h1.below hb2
  clear h1 i0 i1 i2 i3 hb2
  have hT0 := Tb.new (N := N) (A := true) (B := false) (C := 0) (t := N) (s := ⟨#[32]⟩) h2
  obtain ⟨⟨j0, j1, j2, j3⟩, s1, s2, s3, jt⟩ := hT0.all
  go_wp2_with fail
  refine (inst_part _ _ _ _ _ a _ (Nat.lt_succ_self _) hT0.tx hT0.be (hp.below hT0.ins.bel) (by omega) hs0 hr ha).mono ?_
  rintro e w3 ⟨rfl, ht, hs, hbb⟩
  have hT1 := hT0.part ht hs hbb
  have z0 := partS_size N ⟨#[32]⟩ ⟨#[114]⟩ a ha
  clear ht hs hbb j0 j1 j2 j3 s1 s2 s3 jt
  obtain ⟨⟨j0, j1, j2, j3⟩, s1, s2, s3, jt⟩ := hT1.all
  go_wp2_with fail
  go_returns
  exact ⟨rfl, hT1.ins.bel⟩

set_option maxHeartbeats 2000000 in
theorem inst_Text_no (op : Int) (a b c : Nat) (N : ByteArray) (w : World) (_hN : N.size ≤ 4) (_ha : a ≤ 65535) (_hb : b ≤ 65535) (_hc : c ≤ 65535) (_hp : Pow10 w)
    (KR : Hid (∀ W, Calls Tryz.prog 46 #[.agg #[.int .i64 op, .int .i64 a, .int .i64 b, .int .i64 c]] W fun e w' => e = .returned (.bool true) ∧ Below W.heap.size W w'))
    (KS : Hid (∀ W, Calls Tryz.prog 40 #[.int .i64 op] W fun e w' => e = .returned (.agg #[.string N, .bool false, .bool false, .int .i64 0]) ∧ Below W.heap.size W w')) :
    Calls Tryz.prog 27 #[.agg #[.int .i64 op, .int .i64 a, .int .i64 b, .int .i64 c]] w fun e w' => e = .returned (.string (restS N spS (fieldsB false false 0 a b c))) ∧ Below w.heap.size w w' := by
  have hI := Ib.new w op a b c
  have hfld := shape_name N false false 0
  have hs0 : (⟨#[32]⟩ : ByteArray).size ≤ 2 := by decide
  have hs1 : commaS.size ≤ 2 := by decide
  have hr : (⟨#[114]⟩ : ByteArray).size ≤ 1 := by decide
  have he : (⟨#[]⟩ : ByteArray).size ≤ 1 := by decide
  go_enter Tryz.func27, Tryz.ntmps27
  go_wp2_with fail
  refine (KR.out _).mono ?_
  rintro e w1 ⟨rfl, hb1⟩
  have h1 := hI.below hb1
  obtain ⟨i0, i1, i2, i3⟩ := h1.all
  clear hb1 hI
  go_wp2_with fail
  refine (KS.out _).mono ?_
  rintro e w2 ⟨rfl, hb2⟩
  have h2 := h1.below hb2
  clear h1 i0 i1 i2 i3 hb2
  have hT0 := Tb.new (N := N) (A := false) (B := false) (C := 0) (t := N) (s := ⟨#[32]⟩) h2
  obtain ⟨⟨j0, j1, j2, j3⟩, s1, s2, s3, jt⟩ := hT0.all
  go_wp2_with fail
  go_returns
  exact ⟨rfl, hT0.ins.bel⟩

end Go.Proofs.YtknonabeagbjeaaGreatDoor
namespace Go.Proofs.YtknonabeagbjeaaGreatDoor
open Go.RowKit

/-- The text of an instruction: nothing if it may not be. -/
def textB (op a b c : Int) : ByteArray :=
  if rightI op a b c = true then restS ⟨(nameI op).toArray⟩ spS (fieldsB (shA op) (shB op) (shC op) a.toNat b.toNat c.toNat) else ⟨#[]⟩
def combo (A B : Bool) (C : Int) : Bool := (A && !B && decide (C = 1)) || (A && B && decide (C = 0)) || (A && B && decide (C = 2)) || (A && B && decide (C = 1)) || (!A && !B && decide (C = 1)) || (A && !B && decide (C = 0)) || (!A && !B && decide (C = 0))
theorem shape_all : ∀ k, k < 28 → 1 ≤ k → combo (shA ((k : Nat) : Int)) (shB (k : Int)) (shC (k : Int)) = true := by decide
theorem combo_of {A B : Bool} {C : Int} (h : combo A B C = true) : (A = true ∧ B = false ∧ C = 1) ∨ (A = true ∧ B = true ∧ C = 0) ∨ (A = true ∧ B = true ∧ C = 2) ∨ (A = true ∧ B = true ∧ C = 1) ∨ (A = false ∧ B = false ∧ C = 1) ∨ (A = true ∧ B = false ∧ C = 0) ∨ (A = false ∧ B = false ∧ C = 0) := by
  cases A <;> cases B <;> simp [combo] at h ⊢ <;> omega
theorem name_size : ∀ k, k < 28 → (nameI ((k : Nat) : Int)).length ≤ 4 := by decide

set_option maxHeartbeats 1000000 in
theorem inst_Text (op a b c : Int) (w : World) (hp : Pow10 w) :
    Calls Tryz.prog 27 #[.agg #[.int .i64 op, .int .i64 a, .int .i64 b, .int .i64 c]] w fun e w' => e = .returned (.string (textB op a b c)) ∧ Below w.heap.size w w' := by
  unfold textB
  cases h : rightI op a b c with
  | false =>
    rw [if_neg (by decide)]
    have KR : Hid (∀ W, Calls Tryz.prog 46 #[.agg #[.int .i64 op, .int .i64 a, .int .i64 b, .int .i64 c]] W fun e w' => e = .returned (.bool false) ∧ Below W.heap.size W w') := by
      intro W
      have h2 := inst_Right op a b c W
      rw [h] at h2
      exact h2
    have hI := Ib.new w op a b c
    clear h
    go_enter Tryz.func27, Tryz.ntmps27
    go_wp2_with fail
    refine (KR.out _).mono ?_
    rintro e w1 ⟨rfl, hb1⟩
    go_wp2_with fail
    go_returns
    exact ⟨rfl, (hI.below hb1).bel⟩
  | true =>
    rw [if_pos rfl]
    obtain ⟨hio, ⟨a1, a2⟩, ⟨b1, b2⟩, ⟨c1, c2⟩⟩ := right_bounds h
    have KR : Hid (∀ W, Calls Tryz.prog 46 #[.agg #[.int .i64 op, .int .i64 a, .int .i64 b, .int .i64 c]] W fun e w' => e = .returned (.bool true) ∧ Below W.heap.size W w') := by
      intro W
      have h2 := inst_Right op a b c W
      rw [h] at h2
      exact h2
    have KS : ∀ W, Calls Tryz.prog 40 #[.int .i64 op] W _ := inst_shapeOf op
    obtain ⟨k, k1, k2, rfl⟩ := op_cases op hio
    obtain ⟨A, rfl⟩ : ∃ A : Nat, a = A := ⟨a.toNat, by omega⟩
    obtain ⟨B, rfl⟩ : ∃ B : Nat, b = B := ⟨b.toNat, by omega⟩
    obtain ⟨C, rfl⟩ : ∃ C : Nat, c = C := ⟨c.toNat, by omega⟩
    simp only [Int.toNat_natCast]
    have hN : (⟨(nameI (k : Int)).toArray⟩ : ByteArray).size ≤ 4 := name_size k (by omega)
    rcases combo_of (shape_all k (by omega) k1) with ⟨e1, e2, e3⟩ | ⟨e1, e2, e3⟩ | ⟨e1, e2, e3⟩ | ⟨e1, e2, e3⟩ | ⟨e1, e2, e3⟩ | ⟨e1, e2, e3⟩ | ⟨e1, e2, e3⟩
    all_goals rw [e1, e2, e3] at KS
    all_goals rw [e1, e2, e3]
    · exact inst_Text_ac k A B C _ w hN (by omega) (by omega) (by omega) hp KR KS
    · exact inst_Text_ab k A B C _ w hN (by omega) (by omega) (by omega) hp KR KS
    · exact inst_Text_abr k A B C _ w hN (by omega) (by omega) (by omega) hp KR KS
    · exact inst_Text_abc k A B C _ w hN (by omega) (by omega) (by omega) hp KR KS
    · exact inst_Text_c k A B C _ w hN (by omega) (by omega) (by omega) hp KR KS
    · exact inst_Text_a k A B C _ w hN (by omega) (by omega) (by omega) hp KR KS
    · exact inst_Text_no k A B C _ w hN (by omega) (by omega) (by omega) hp KR KS

end Go.Proofs.YtknonabeagbjeaaGreatDoor
