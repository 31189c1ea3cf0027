/- Layer 12: a text, read; walked: the lines. -/
import Derived.Test.YtknonabeagbjeaaGreatDoorBn
namespace Go.Proofs.YtknonabeagbjeaaGreatDoor
open Go.RowKit Go.Maps

/-- What a text's reading gives. -/
def ReadP (r : Option (List UInt32 × Nat)) (W : World) (e : Ending) (w' : World) : Prop :=
  Below W.heap.size W w' ∧ match r with
  | none => ∃ n k : Int, k ≠ 0 ∧ e = .returned (.tuple #[.agg #[.slice none 0 0, .int .i64 0], .int .i64 n, .int .i64 k])
  | some (cs, d) => ∃ A c, e = .returned (.tuple #[.agg #[.slice A cs.length c, .int .i64 (d : Nat)], .int .i64 0, .int .i64 0]) ∧ Sl w' w'.heap.size A cs.length (cs.map wv)
theorem ReadP.bad {r : Option (List UInt32 × Nat)} {W w' : World} (hr : r = none) (n k : Int) (hk : k ≠ 0) (hb : Below W.heap.size W w') : ReadP r W (.returned (.tuple #[.agg #[.slice none 0 0, .int .i64 0], .int .i64 n, .int .i64 k])) w' := by
  subst hr
  exact ⟨hb, n, k, hk, rfl⟩
/-- The reader, the result's box, and the lines. -/
structure Rd (W0 : World) (ls : List (List UInt8)) (s : Asm) (A : Option Addr) (c : Nat) (U : Option Addr) (cu : Nat) (W : World) : Prop where
  r : Rs (W0.heap.size + 2) (W0.heap.size + 1) s A c U cu W
  i : Blk W W0.heap.size 24 #[.slice none 0 0, .int .i64 0]
  l : Blk W (W0.heap.size + 3) 9 (ls.map sv).toArray
  bel : Below W0.heap.size W0 W
section
variable {W0 W W' : World} {ls : List (List UInt8)} {s s' : Asm} {A U : Option Addr} {c cu : Nat}
theorem Rd.below (h : Rd W0 ls s A c U cu W) (hb : Below W.heap.size W W') : Rd W0 ls s A c U cu W' := ⟨h.r.below rfl hb, h.i.below hb h.i.lt, h.l.below hb h.l.lt, h.bel.trans (hb.mono h.bel.size)⟩
theorem Rd.alloc (h : Rd W0 ls s A c U cu W) (o : Obj) : Rd W0 ls s A c U cu (W.alloc o) := h.below ((Below.refl _ W).alloc (Nat.le_refl _) o)
theorem Rd.step {e : Ending} (h : Rd W0 ls s A c U cu W) (hs : StepP W0.heap.size (W0.heap.size + 2) (W0.heap.size + 1) (some s') W e W') : e = .returned (.int .i64 0) ∧ ∃ A c U cu, Rd W0 ls s' A c U cu W' := by
  obtain ⟨⟨hb, hk⟩, he, A', c', U', cu', hr⟩ := hs
  exact ⟨he, A', c', U', cu', hr, blk_kp h.i hk (by omega) (by omega) (by decide) (by decide), blk_kp h.l hk (by omega) (by omega) (by decide) (by decide), h.bel.trans hb⟩
theorem Rd.fail {e : Ending} (h : Rd W0 ls s A c U cu W) (hs : StepP W0.heap.size (W0.heap.size + 2) (W0.heap.size + 1) none W e W') : ∃ k : Int, k ≠ 0 ∧ e = .returned (.int .i64 k) ∧ Blk W' W0.heap.size 24 #[.slice none 0 0, .int .i64 0] ∧ Below W0.heap.size W0 W' := by
  obtain ⟨⟨hb, hk⟩, k, hk0, he⟩ := hs
  exact ⟨k, hk0, he, blk_kp h.i hk (by omega) (by omega) (by decide) (by decide), h.bel.trans hb⟩
end
/-- The world ahead of the split. -/
def w3 (W : World) : World := ((W.alloc (.cells #[.slice none 0 0, .int .i64 0] 24)).alloc (.map #[] 0)).alloc (.cells #[.slice none 0 0, .int .i64 0, .bool false, .map (some (W.heap.size + 1)), .slice none 0 0] 36)
theorem Rd.start (W : World) : (Rs (W.heap.size + 2) (W.heap.size + 1) asm0 none 0 none 0 (w3 W) ∧ Blk (w3 W) W.heap.size 24 #[.slice none 0 0, .int .i64 0]) ∧ Below W.heap.size W (w3 W) := by
  have e1 : (W.alloc (.cells #[.slice none 0 0, .int .i64 0] 24)).heap.size = W.heap.size + 1 := by simp
  have e2 : ((W.alloc (.cells #[.slice none 0 0, .int .i64 0] 24)).alloc (.map #[] 0)).heap.size = W.heap.size + 2 := by simp
  have hm := Blk.new ((W.alloc (.cells #[.slice none 0 0, .int .i64 0] 24)).alloc (.map #[] 0)) 36 #[.slice none 0 0, .int .i64 0, .bool false, .map (some (W.heap.size + 1)), .slice none 0 0]
  rw [e2] at hm
  have hg := World.ownsMap_made (W.alloc (.cells #[.slice none 0 0, .int .i64 0] 24)) Tryz.prog 9 (plainElem (H := Unit) Tryz.prog 3)
  rw [e1] at hg
  refine ⟨⟨⟨hm, World.ownsRow_nil _ _ _ _, World.ownsRow_nil _ _ _ _, ⟨_, hg.alloc _, PlD.nil⟩⟩, ((Blk.new W _ _).alloc _).alloc _⟩, ?_⟩
  exact (((Below.refl _ W).alloc (Nat.le_refl _) _).alloc (by simp) _).alloc (by simp; omega) _
theorem w3_size (W : World) : (w3 W).heap.size = W.heap.size + 3 := by simp [w3]
theorem Rd.lines (W : World) (ls : List (List UInt8)) (h : Rs (W.heap.size + 2) (W.heap.size + 1) asm0 none 0 none 0 (w3 W) ∧ Blk (w3 W) W.heap.size 24 #[.slice none 0 0, .int .i64 0]) (hb : Below W.heap.size W (w3 W)) :
    Rd W ls asm0 none 0 none 0 ((w3 W).alloc (.cells (ls.map sv).toArray 9)) := by
  have hl := Blk.new (w3 W) 9 (ls.map sv).toArray
  rw [w3_size] at hl
  exact ⟨h.1.alloc _, h.2.alloc _, hl, hb.alloc hb.size _⟩
theorem box_zero {W0 w : World} {i : Nat} (h : Blk w i 24 #[.slice none 0 0, .int .i64 0]) (hb : Below i W0 w) :
    Blk ((w.setCell ⟨i, 0, none⟩ (.slice none 0 0)).setCell ⟨i, 1, none⟩ (.int .i64 0)) i 24 #[.slice none 0 0, .int .i64 0] ∧ Below i W0 ((w.setCell ⟨i, 0, none⟩ (.slice none 0 0)).setCell ⟨i, 1, none⟩ (.int .i64 0)) :=
  ⟨(h.set 0 _).set 1 _, (hb.setCell (p := ⟨i, 0, none⟩) (Nat.le_refl _) _).setCell (p := ⟨i, 1, none⟩) (Nat.le_refl _) _⟩
/-- The result put into its box. -/
theorem Rd.result {W0 W : World} {ls : List (List UInt8)} {s : Asm} {cs : List UInt32} {A U : Option Addr} {c cu : Nat} (h : Rd W0 ls { s with code := cs } A c U cu W) :
    Blk ((W.setCell ⟨W0.heap.size, 0, none⟩ (.slice A cs.length c)).setCell ⟨W0.heap.size, 1, none⟩ (.int .i64 (s.dat : Nat))) W0.heap.size 24 #[.slice A cs.length c, .int .i64 (s.dat : Nat)] ∧
    Below W0.heap.size W0 ((W.setCell ⟨W0.heap.size, 0, none⟩ (.slice A cs.length c)).setCell ⟨W0.heap.size, 1, none⟩ (.int .i64 (s.dat : Nat))) ∧
    Sl ((W.setCell ⟨W0.heap.size, 0, none⟩ (.slice A cs.length c)).setCell ⟨W0.heap.size, 1, none⟩ (.int .i64 (s.dat : Nat))) ((W.setCell ⟨W0.heap.size, 0, none⟩ (.slice A cs.length c)).setCell ⟨W0.heap.size, 1, none⟩ (.int .i64 (s.dat : Nat))).heap.size A cs.length (cs.map wv) := by
  refine ⟨(h.i.set 0 _).set 1 _, (h.bel.setCell (p := ⟨W0.heap.size, 0, none⟩) (Nat.le_refl _) _).setCell (p := ⟨W0.heap.size, 1, none⟩) (Nat.le_refl _) _, ?_⟩
  have h1 := own_far (u := .slice A cs.length c) (i := 0) h.r.own h.i (by decide)
  have h2 := own_far (u := .int .i64 (s.dat : Nat)) (i := 1) h1 (h.i.set 0 _) (by decide)
  obtain ⟨A', c', hv, -, -, hS⟩ := Sl.of_own h2
  injection hv with hA _ hc
  subst hA
  subst hc
  exact hS
theorem flat3 : ∀ (us : List (Int × Nat × List UInt8)) (j i : Nat) (h : j < us.length), i < 3 → (us.flatMap usL)[j * 3 + i]? = (usL us[j])[i]?
  | [], j, _, h, _ => absurd h (by simp)
  | u :: r, 0, i, _, hi => by
    rw [List.flatMap_cons, List.getElem?_append_left (by show _ < 3; omega), Nat.zero_mul, Nat.zero_add]
    rfl
  | u :: r, j + 1, i, h, hi => by
    have h2 : j < r.length := Nat.lt_of_succ_lt_succ h
    rw [List.flatMap_cons, List.getElem?_append_right (by show 3 ≤ _; omega), show (j + 1) * 3 + i - (usL u).length = j * 3 + i from by show (j + 1) * 3 + i - 3 = _; omega, flat3 r j i h2 hi]
    rfl
theorem use_cell {w : World} {q ru cu : Nat} {us : List (Int × Nat × List UInt8)} {n : Nat} (h : w.ownsRow q 41 3 (.slice (some ⟨ru, 0, none⟩) n cu) n (us.flatMap usL)) {j i : Nat} (hj : j < us.length) (hi : i < 3) {u : Value} (hu : (usL us[j])[i]? = some u) : w.cell? ⟨ru, j * 3 + i, none⟩ = some u := by
  have h1 := h.cells (g := ru) rfl (j * 3 + i) u ((flat3 us j i hj hi).trans hu)
  have e : (⟨ru, 0, none⟩ : Addr).add (j * 3 + i) = ⟨ru, j * 3 + i, none⟩ := by unfold Addr.add; split <;> simp_all
  rwa [e] at h1
/-- A look-up whose answer is known. -/
theorem wpList_lookup_known {P : Program} (w : World) {ops : Array Oper} {rest : List Oper} {o : Oper} {a : Act} {Q : Exit → Act → World → Prop} (hg : o.guard = none) (m x : Operand) (t : TypeId) (hop : o.op = Op.lookup t m x true)
    (k e : TypeId) (q : IntKind) (K : Keyed P k) (ht : P.underlying t = some (.map k e)) (he : P.underlying e = some (.int q)) (hz : (zeroValue e).run P w = .ok (.int q 0) w) (b n : Nat) (D : DataW Unit)
    (hm : a.eval m = .map (some b)) (hown : w.ownsMap P k (plainElem P e) b n D) (key : Value) (kl : Lit) (hx : a.eval x = key) (hkey : keyOf P k key = some kl) (v : Int) (y : Bool) (hat : D.atKey kl (.lit (.int q 0)) = .lit (.int q v)) (hhas : has D kl = y)
    (hK : wpList P ops Q rest (a.put o.dst (.tuple #[.int q v, .bool y])) w) :
    wpList P ops Q (o :: rest) a w :=
  wpList_lookup_own_ok_int w hg m x t hop k e q K ht he hz b n D hm hown key kl hx hkey (fun c h _ => by
    rw [hat] at h
    injection h with h
    injection h with _ h
    rw [← h, hhas]
    exact hK)
theorem useS_none {pl : List (List UInt8 × Nat)} {code : List UInt32} {n : Int} {a : Nat} {l : List UInt8} {r : List (Int × Nat × List UInt8)} (h : lookP l pl = none) : useS pl code ((n, a, l) :: r) = none := by
  unfold useS
  simp only
  rw [h]
theorem useS_some {pl : List (List UInt8 × Nat)} {code : List UInt32} {n : Int} {a p : Nat} {l : List UInt8} {r : List (Int × Nat × List UInt8)} (h : lookP l pl = some p) (hp : p ≤ 65535) : useS pl code ((n, a, l) :: r) = useS pl (code.set a (code.getD a 0 ||| UInt32.ofNat p)) r := by
  rw [useS]
  simp only
  rw [h]
  simp only
  rw [if_neg (by omega)]
theorem or_word (a : UInt32) (p : Nat) (hp : p ≤ 65535) : bits BinOp.or .u32 (a.toNat : Int) (p : Int) = ((a ||| UInt32.ofNat p).toNat : Int) := by
  have := a.toNat_lt
  rw [u32_or_nat _ _ (by omega) (by omega), UInt32.toNat_or, UInt32.toNat_ofNat', Nat.mod_eq_of_lt (show p < 2 ^ 32 by omega)]
theorem blk_ne {w : World} {a b : Nat} {t t' : TypeId} {cs cs' : Array Value} (h : Blk w a t cs) (h' : Blk w b t' cs') (hne : t ≠ t') : a ≠ b := by
  rintro rfl
  unfold Blk at h h'
  rw [h] at h'
  injection h' with h'
  injection h' with _ h' _
  exact hne h'
/-- A place put into the code. -/
theorem Rd.word {W0 W : World} {ls : List (List UInt8)} {s : Asm} {cs : List UInt32} {U : Option Addr} {rc c cu a : Nat} (h : Rd W0 ls { s with code := cs } (some ⟨rc, 0, none⟩) c U cu W) (ha : a < cs.length) (x : UInt32) :
    Rd W0 ls { s with code := cs.set a x } (some ⟨rc, 0, none⟩) c U cu (W.setCell ⟨rc, a, none⟩ (.int .u32 x.toNat)) := by
  obtain ⟨cur, hb, hB⟩ : ∃ cur, Blk W rc 43 cur ∧ W0.heap.size + 2 ≤ rc := by
    rcases h.r.own.2 with ⟨h0, _⟩ | ⟨g', cap, cur, hv, hB, hh, _⟩
    · cases h0
    · injection hv with hv _ _
      injection hv with hv
      injection hv with hv
      subst hv
      exact ⟨cur, hh, hB⟩
  obtain ⟨D, hD, hP⟩ := h.r.mp
  have ho := own_set h.r.own (k := a) ha (.int .u32 x.toNat)
  refine ⟨⟨?_, ?_, own_far h.r.us hb (by decide), ⟨D, map_set hD hb, hP⟩⟩, h.i.far (p := ⟨rc, a, none⟩) (blk_ne h.i hb (by decide)) _, h.l.far (p := ⟨rc, a, none⟩) (blk_ne h.l hb (by decide)) _, h.bel.setCell (p := ⟨rc, a, none⟩) (by show W0.heap.size ≤ rc; omega) _⟩
  · have k := h.r.m.far (p := ⟨rc, a, none⟩) (blk_ne h.r.m hb (by decide)) (.int .u32 x.toNat)
    show Blk _ _ _ #[.slice _ (cs.set a x).length _, _, _, _, _]
    rw [List.length_set]
    exact k
  · show World.ownsRow _ _ _ 1 (.slice _ (cs.set a x).length _) (cs.set a x).length ((cs.set a x).map wv)
    rw [List.length_set, List.map_set]
    exact ho
theorem linesS_none {s : Asm} {n : Int} {l : List UInt8} {r : List (List UInt8)} (h : lineS s n l = none) : linesS s n (l :: r) = none := by
  show (match lineS s n l with | some s1 => linesS s1 (n + 1) r | none => none) = none
  rw [h]
theorem linesS_some {s s1 : Asm} {n : Int} {l : List UInt8} {r : List (List UInt8)} (h : lineS s n l = some s1) : linesS s n (l :: r) = linesS s1 (n + 1) r := by
  show (match lineS s n l with | some s1 => linesS s1 (n + 1) r | none => none) = _
  rw [h]
theorem readX_long {t : List UInt8} (h : 20000 < t.length) : readX t = none := by unfold readX; rw [if_pos h]
theorem readX_lines {t : List UInt8} (h : ¬ 20000 < t.length) : readX t = match linesS asm0 1 (splitP 10 t) with
    | none => none
    | some s => match useS s.pl s.code s.us with
      | none => none
      | some c => some (c, s.dat) := by
  unfold readX
  rw [if_neg h]
  rfl

set_option maxRecDepth 100000 in
set_option maxHeartbeats 8000000 in
theorem asm_Read (t : ByteArray) (W : World) (hT : Small W) (hM : Mx W) (hz : t.size ≤ 100000) :
    Calls Tryz.prog 4 #[.string t] W (ReadP (readX t.data.toList) W) := by
  obtain ⟨X, hX⟩ : ∃ X, readX t.data.toList = X := ⟨_, rfl⟩
  rw [hX]
  have hb0 : Below W.heap.size W (W.alloc (.cells #[.slice none 0 0, .int .i64 0] 24)) := (Below.refl _ W).alloc (Nat.le_refl _) _
  have i0 := Blk.new W 24 #[.slice none 0 0, .int .i64 0]
  by_cases hl : 20000 < t.data.toList.length
  · rw [readX_long hl] at hX
    have hI : (20000 : Int) < (t.size : Nat) := by rw [size_len]; omega
    have c0 := i0.cell 0
    have c1 := i0.cell 1
    have cf := i0.frozen 0
    go_enter Tryz.func4, Tryz.ntmps4
    go_wp2_with fail
    go_returns
    exact ReadP.bad hX.symm 0 2 (by decide) hb0
  · rw [readX_lines hl] at hX
    have hI : ¬ (20000 : Int) < (t.size : Nat) := by rw [size_len]; omega
    have hmm := @run_makeMap Tryz.prog
    have R0 := Rd.start W
    have hT3 := hM.below R0.2
    have KS := Lib.hid (str_Split t 10 _ (by omega) hT3)
    obtain ⟨ls, hls⟩ : ∃ ls, splitP 10 t.data.toList = ls := ⟨_, rfl⟩
    have hln : ls.length ≤ 20001 := by rw [← hls]; have := splitN_len 10 t.data.toList.length t.data.toList; unfold splitP; omega
    have hlm : ∀ x ∈ ls, x.length ≤ 20000 := by
      intro x hx
      rw [← hls] at hx
      have := splitN_mem 10 _ _ x hx
      omega
    rw [hls] at KS hX
    have R1 := Rd.lines W ls R0.1 R0.2
    have HX := Lib.hid hX
    have HLM := Lib.hid hlm
    clear i0 hb0 hX hls hlm hT3 R0
    go_enter Tryz.func4, Tryz.ntmps4
    go_wp2_with fail
    refine KS.out.mono ?_
    rintro e w1 ⟨rfl, hw1⟩
    rw [← hw1] at R1
    clear hw1
    rw [w3_size]
    go_wp2_with fail
    go_loopw [22, 3, 4] (fun iv r3 r4 wr => ∃ (k : Nat) (s : Asm) (A : Option Addr) (c : Nat) (U : Option Addr) (cu : Nat), k ≤ ls.length ∧ iv = .int .i64 k ∧ r3 = .int .i64 0 ∧ r4 = .int .i64 0 ∧ Hid (linesS s (k + 1) (ls.drop k) = linesS asm0 1 ls) ∧ Hid (Inv k k s) ∧ Hid (Rd W ls s A c U cu wr)) (fun iv _ _ _ => ls.length - (intOf iv).toNat)
    case atStart => exact ⟨0, asm0, none, 0, none, 0, Nat.zero_le _, rfl, rfl, rfl, Lib.hid rfl, Lib.hid Inv.zero, Lib.hid R1⟩
    case round =>
      clear R1
      obtain ⟨k, s, A, c, U, cu, hk, rfl, rfl, rfl, HL, HI, HR⟩ := hrel
      by_cases hlt : k < ls.length
      · have hkI : (k : Int) < ls.length := by omega
        have hk0 : (0 : Int) ≤ k := by omega
        have hnI : (ls.length : Int) ≤ 20001 := by omega
        have hc0 : wr.cell? ⟨W.heap.size + 3, k, none⟩ = some (.string (bs ls[k])) := (HR.out.l.cell k).trans (by rw [List.getElem?_toArray, List.getElem?_map, List.getElem?_eq_getElem hlt]; rfl)
        have hlz := HLM.out ls[k] (List.getElem_mem hlt)
        have hdr := HL.out
        rw [List.drop_eq_getElem_cons hlt] at hdr
        obtain ⟨p, hp⟩ : ∃ p : ByteArray, bs ls[k] = p := ⟨_, rfl⟩
        have hpl : ls[k] = p.data.toList := by rw [← hp]
        have hpz : p.size ≤ 100000 := by rw [size_len, ← hpl]; omega
        rw [hp] at hc0
        have KL := asm_line (W.heap.size + 2) (W.heap.size + 1) c cu s A U (k + 1) p wr W.heap.size (by omega) (by omega) hT.1 (hT.below HR.out.bel hT.1) (hM.below HR.out.bel) hpz HI.out.c (by have := HI.out.p; omega) (by have := HI.out.u; omega) HR.out.r
        rw [hpl] at hdr
        cases hq : lineS s (k + 1) p.data.toList with
        | none =>
          rw [hq] at KL
          have hX0 : X = none := by
            have h := HX.out
            rw [← HL.out, List.drop_eq_getElem_cons hlt, hpl, linesS_none hq] at h
            exact h.symm
          have HKL := Lib.hid KL
          clear KL hdr hp hpl hpz hlz hq HX HL HI HLM
          go_wp2_with fail
          refine HKL.out.mono ?_
          intro e w2 hS
          obtain ⟨z, hz0, rfl, i2, b2⟩ := HR.out.fail hS
          have q0 : (z != 0) = true := by rw [bne_iff_ne]; exact hz0
          have c0 := i2.cell 0
          have c1 := i2.cell 1
          have cf := i2.frozen
          have HI2 := Lib.hid i2
          have HB2 := Lib.hid b2
          clear i2 hS b2
          go_wp2_with fail
          clear c0 c1 cf
          obtain ⟨i4, b4⟩ := box_zero HI2.out HB2.out
          generalize World.setCell (World.setCell w2 _ _) _ _ = w4 at i4 b4 ⊢
          have c0 : w4.cell? ⟨W.heap.size, 0, none⟩ = some (.slice none 0 0) := i4.cell 0
          have c1 : w4.cell? ⟨W.heap.size, 1, none⟩ = some (.int .i64 0) := i4.cell 1
          refine bodyPost_ret (by simp [results, Tryz.results4, go_sem, c0, c1]; try rfl) rfl ?_
          exact ReadP.bad hX0 _ z hz0 b4
        | some s1 =>
          rw [hq] at KL
          rw [linesS_some hq] at hdr
          have HI1 := Lib.hid (HI.out.line (by rw [← size_len]; omega) hq)
          have HDR := Lib.hid hdr
          have HKL := Lib.hid KL
          clear KL hdr hp hpl hpz hlz hq HL HI
          go_wp2_with fail
          refine HKL.out.mono ?_
          intro e w2 hS
          obtain ⟨rfl, A', c', U', cu', R2⟩ := HR.out.step hS
          have HR2 := Lib.hid R2
          clear hS R2
          go_wp2_with fail
          go_roundw
          case rel => exact ⟨k + 1, s1, A', c', U', cu', hlt, rfl, rfl, rfl, Lib.hid (by have h := HDR.out; rw [show ((k + 1 : Nat) : Int) + 1 = (k : Int) + 1 + 1 by omega]; exact h), HI1, HR2⟩
          case measure => simp [intOf]; omega
      · obtain rfl : k = ls.length := by omega
        have hkI : ¬ ((ls.length : Nat) : Int) < ls.length := by omega
        have hL : linesS asm0 1 ls = some s := by rw [← HL.out, List.drop_length]; rfl
        have HX2 : Hid ((match useS s.pl s.code s.us with | none => none | some c => some (c, s.dat)) = X) := by
          have h := HX.out
          rw [hL] at h
          exact h
        have hcu := HI.out
        have HI2 := Lib.hid hcu
        have hul : (s.us.length : Int) ≤ 20001 := by have := hcu.u; omega
        have m4 : wr.cell? ⟨W.heap.size + 1 + 1, 4, none⟩ = some (.slice U s.us.length cu) := HR.out.r.all.2.2.2.2
        clear hL HL HX hcu KS HLM HI
        go_wp2_with fail
        go_loopw [41, 3, 4] (fun iv r3 r4 wq => ∃ (j : Nat) (cs : List UInt32), j ≤ s.us.length ∧ iv = .int .i64 j ∧ r3 = .int .i64 0 ∧ r4 = .int .i64 0 ∧ Hid (useS s.pl cs (s.us.drop j) = useS s.pl s.code s.us) ∧ cs.length = s.code.length ∧ Hid (Rd W ls { s with code := cs } A c U cu wq)) (fun iv _ _ _ => s.us.length - (intOf iv).toNat)
        case atStart => exact ⟨0, s.code, Nat.zero_le _, rfl, rfl, rfl, Lib.hid rfl, rfl, HR⟩
        case round =>
          clear m4 HR
          obtain ⟨j, cs, hj, rfl, rfl, rfl, HU, hcl, HR⟩ := hrel
          by_cases hlt2 : j < s.us.length
          · have hjI : (j : Int) < s.us.length := by omega
            have hj0 : (0 : Int) ≤ j := by omega
            obtain ⟨ru, cu', hv, -⟩ := own_form HR.out.r.us (by show 0 < s.us.length; omega)
            injection hv with hU _ hc'
            subst hU
            subst hc'
            obtain ⟨⟨un, ua, ul⟩, hx⟩ : ∃ x, s.us[j] = x := ⟨_, rfl⟩
            have hat := HI2.out.at_ s.us[j] (List.getElem_mem hlt2)
            have hdr := HU.out
            rw [List.drop_eq_getElem_cons hlt2, hx] at hdr
            rw [hx] at hat
            have hat2 : ua < cs.length := by rw [hcl]; exact hat
            have us0 := use_cell HR.out.r.us hlt2 (show 0 < 3 by decide) rfl
            have us1 := use_cell HR.out.r.us hlt2 (show 1 < 3 by decide) rfl
            have us2 := use_cell HR.out.r.us hlt2 (show 2 < 3 by decide) rfl
            simp only [hx] at us0 us1 us2
            obtain ⟨ub, hub⟩ : ∃ x : ByteArray, bs ul = x := ⟨_, rfl⟩
            have hubl : ub.data.toList = ul := by rw [← hub]
            have us2b : wr.cell? ⟨ru, j * 3 + 2, none⟩ = some (.string ub) := by rw [← hub]; exact us2
            have us0b : wr.cell? ⟨ru, j * 3, none⟩ = some (.int .i64 un) := us0
            clear us2 us0 hat
            have RV := HR.out.alloc (.cells #[.int .i64 un, .int .i64 (ua : Nat), .string ub] 41)
            have m3 : (wr.alloc (.cells #[.int .i64 un, .int .i64 (ua : Nat), .string ub] 41)).cell? ⟨W.heap.size + 1 + 1, 3, none⟩ = some (.map (some (W.heap.size + 1))) := RV.r.all.2.2.2.1
            obtain ⟨D, hD, hP⟩ := RV.r.mp
            obtain ⟨hh1, hh2⟩ := hP.2 ul
            have hkey : keyOf Tryz.prog 9 (.string ub) = some (.string ul) := by rw [← hubl]; exact WideMaps.keyOf_string_mk Tryz.underlying9 (by rw [size_len, hubl]; have := HI2.out.l s.us[j] (List.getElem_mem hlt2); rw [hx] at this; unfold maxLen; simp only at this; omega)
            clear hx hub hubl
            cases hp : lookP ul s.pl with
            | none =>
              have hX0 : X = none := by
                have h := HX2.out
                rw [← hdr, useS_none hp] at h
                exact h.symm
              have c0 : wr.cell? ⟨W.heap.size, 0, none⟩ = some (.slice none 0 0) := HR.out.i.cell 0
              have c1 : wr.cell? ⟨W.heap.size, 1, none⟩ = some (.int .i64 0) := HR.out.i.cell 1
              have cf := HR.out.i.frozen
              have hu0 : (wr.alloc (.cells #[.int .i64 un, .int .i64 (ua : Nat), .string ub] 41)).cell? ⟨wr.heap.size, 0, none⟩ = some (.int .i64 un) := (Blk.new wr _ _).cell 0
              have HRV := Lib.hid RV
              have hIT := HR.out.i.lt
              have hIT2 : ¬ wr.heap.size = W.heap.size := by omega
              have hIT3 : ¬ W.heap.size = wr.heap.size := by omega
              have hp2 : lookP ul ({ s with code := cs } : Asm).pl = none := hp
              rw [hp2] at hh1 hh2
              go_wp2_with (first | (at_lookup; refine wpList_lookup_known _ rfl _ _ 33 rfl 9 3 .i64 (string_keyed Tryz.underlying9) Tryz.underlying33 Tryz.underlying3 (by first | rfl | kernel_rfl) (W.heap.size + 1) s.pl.length D rfl hD _ _ rfl hkey 0 false hh2 hh1 ?_))
              go_region
              all_goals
                go_wp2_with fail
                clear c0 c1 cf hu0 m3 hh1 hh2
                obtain ⟨i4, b4⟩ := box_zero HR.out.i HR.out.bel
                have i5 := (i4.alloc (.cells #[.int .i64 un, .int .i64 (ua : Nat), .string ub] 41)).drew
                have b5 := (b4.alloc b4.size (.cells #[.int .i64 un, .int .i64 (ua : Nat), .string ub] 41)).drew
                clear i4 b4
                generalize World.drew (World.alloc (World.setCell (World.setCell wr _ _) _ _) _) = w4 at i5 b5 ⊢
                have c0 : w4.cell? ⟨W.heap.size, 0, none⟩ = some (.slice none 0 0) := i5.cell 0
                have c1 : w4.cell? ⟨W.heap.size, 1, none⟩ = some (.int .i64 0) := i5.cell 1
                refine bodyPost_ret (by simp [results, Tryz.results4, go_sem, c0, c1]; try rfl) rfl ?_
                exact ReadP.bad hX0 _ 4 (by decide) b5
            | some p =>
              have hp2 : lookP ul ({ s with code := cs } : Asm).pl = some p := hp
              have hpz : p ≤ 65535 := by
                have h1 := HI2.out.pl
                have h2 := HI2.out.c
                unfold lookP at hp
                cases hf : s.pl.find? (fun p => decide (p.1 = ul)) with
                | none => rw [hf] at hp; cases hp
                | some z =>
                  rw [hf] at hp
                  injection hp with hp
                  have := h1 z (List.mem_of_find?_eq_some hf)
                  omega
              rw [hp2] at hh1 hh2
              have hpI : ¬ (65535 : Int) < (p : Nat) := by omega
              rw [useS_some hp hpz] at hdr
              obtain ⟨rc, cc, hv2, -⟩ := own_form RV.r.own (by show 0 < cs.length; omega)
              injection hv2 with hA _ hcc
              subst hA
              subst hcc
              have m0 : (wr.alloc (.cells #[.int .i64 un, .int .i64 (ua : Nat), .string ub] 41)).cell? ⟨W.heap.size + 1 + 1, 0, none⟩ = some (.slice (some ⟨rc, 0, none⟩) cs.length c) := RV.r.all.1
              have hu1 : (wr.alloc (.cells #[.int .i64 un, .int .i64 (ua : Nat), .string ub] 41)).cell? ⟨wr.heap.size, 1, none⟩ = some (.int .i64 (ua : Nat)) := (Blk.new wr _ _).cell 1
              have hk0 := own_cell RV.r.own (k := ua) (u := wv cs[ua]) (by rw [List.getElem?_map, List.getElem?_eq_getElem hat2]; rfl)
              have hkc : (wr.alloc (.cells #[.int .i64 un, .int .i64 (ua : Nat), .string ub] 41)).cell? ⟨rc, ua, none⟩ = some (.int .u32 cs[ua].toNat) := hk0
              have hkf := own_frozen RV.r.own ua
              have ha1 : (ua : Int) < (cs.length : Nat) := by omega
              have ha0 : (0 : Int) ≤ ua := by omega
              have hgd : cs.getD ua 0 = cs[ua] := by rw [List.getD_eq_getElem?_getD, List.getElem?_eq_getElem hat2]; rfl
              have HRV := Lib.hid RV
              clear RV hk0
              go_wp2_with (first | (at_lookup; refine wpList_lookup_known _ rfl _ _ 33 rfl 9 3 .i64 (string_keyed Tryz.underlying9) Tryz.underlying33 Tryz.underlying3 (by first | rfl | kernel_rfl) (W.heap.size + 1) s.pl.length D rfl hD _ _ rfl hkey (p : Nat) true hh2 hh1 ?_))
              have RW := HRV.out.word hat2 (cs[ua] ||| UInt32.ofNat p)
              rw [← or_word _ _ hpz] at RW
              have HRW := Lib.hid RW
              clear RW
              refine ⟨⟨j + 1, cs.set ua (cs[ua] ||| UInt32.ofNat p), hlt2, rfl, rfl, rfl, Lib.hid (by rw [← hdr, hgd]), by rw [List.length_set]; exact hcl, HRW⟩, ?_⟩
              simp [intOf]
              omega
          · obtain rfl : j = s.us.length := by omega
            have hjI : ¬ ((s.us.length : Nat) : Int) < s.us.length := by omega
            have m0 : wr.cell? ⟨W.heap.size + 1 + 1, 0, none⟩ = some (.slice A cs.length c) := HR.out.r.all.1
            have m1 : wr.cell? ⟨W.heap.size + 1 + 1, 1, none⟩ = some (.int .i64 (s.dat : Nat)) := HR.out.r.all.2.1
            have c0 : wr.cell? ⟨W.heap.size, 0, none⟩ = some (.slice none 0 0) := HR.out.i.cell 0
            have c1 : wr.cell? ⟨W.heap.size, 1, none⟩ = some (.int .i64 0) := HR.out.i.cell 1
            have cf := HR.out.i.frozen
            have hX2 := HX2.out
            rw [← HU.out, List.drop_length] at hX2
            have HX3 : Hid (some (cs, s.dat) = X) := hX2
            obtain ⟨i4, b4, S4⟩ := HR.out.result
            have HB4 := Lib.hid b4
            have HS4 := Lib.hid S4
            have HI4 := Lib.hid i4
            clear hX2 i4 b4 S4 HU HI2 HX2 hcl
            go_wp2_with fail
            clear c0 c1 cf m0 m1
            have i4 := HI4.out
            have b4 := HB4.out
            have s4 := HS4.out
            generalize World.setCell (World.setCell wr _ _) _ _ = w4 at i4 b4 s4 ⊢
            have c0 : w4.cell? ⟨W.heap.size, 0, none⟩ = some (.slice A cs.length c) := i4.cell 0
            have c1 : w4.cell? ⟨W.heap.size, 1, none⟩ = some (.int .i64 (s.dat : Nat)) := i4.cell 1
            refine bodyPost_ret (by simp [results, Tryz.results4, go_sem, c0, c1]; try rfl) rfl ?_
            rw [← HX3.out]
            exact ⟨b4, A, c, rfl, s4⟩
end Go.Proofs.YtknonabeagbjeaaGreatDoor
