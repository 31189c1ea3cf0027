/- Layer 12: a line, read; walked (printed by gen/alin.py). -/
import Derived.Test.YtknonabeagbjeaaGreatDoorBl
namespace Go.Proofs.YtknonabeagbjeaaGreatDoor
open Go.RowKit Go.Maps

theorem own_grown {w w' : World} {B E sz n g N : Nat} {v : Value} {xs : List Value} {k : TypeId} {R : Value → Option (DataW Unit × List MemPlace)} {D : DataW Unit} (h : w.ownsRow B E sz v n xs) (hm : w.ownsMap Tryz.prog k R g N D) (hg : w.grownBy w' (some g)) : w'.ownsRow B E sz v n xs := by
  refine ⟨h.1, ?_⟩
  rcases h.2 with h2 | ⟨g', cap, cur, hv, hB, hh, r⟩
  · exact .inl h2
  · refine .inr ⟨g', cap, cur, hv, hB, (hg.block g' (Array.getElem?_eq_some_iff.1 hh).1 (fun e => ?_)).trans hh, r⟩
    obtain ⟨es, clock, hb, _⟩ := hm
    have e2 : g' = g := Option.some.inj e
    subst e2
    rw [hh] at hb
    cases hb
/-- A label put into the map. -/
theorem Rs.label {q g c cu : Nat} {s : Asm} {A U : Option Addr} {W W' : World} {lb : List UInt8} {D : DataW Unit} (h : Rs q g s A c U cu W) (hD : W.ownsMap Tryz.prog 9 (plainElem (H := Unit) Tryz.prog 3) g s.pl.length D) (hP : PlD D s.pl)
    (hD' : W'.ownsMap Tryz.prog 9 (plainElem (H := Unit) Tryz.prog 3) g (s.pl.length + 1) (D.put (.string lb) (.lit (.int .i64 (s.code.length : Nat))))) (hg : W.grownBy W' (some g)) :
    Rs q g { s with pl := (lb, s.code.length) :: s.pl } A c U cu W' ∧ Kp q g W W' := by
  have hqg : q ≠ g := by
    rintro rfl
    obtain ⟨es, clock, hb, _⟩ := hD
    have hm := h.m
    unfold Blk at hm
    rw [hb] at hm
    cases hm
  refine ⟨⟨(hg.block q h.m.lt (fun e => hqg (Option.some.inj e))).trans h.m, own_grown h.own hD hg, own_grown h.us hD hg, ⟨_, hD', hP.put lb s.code.length⟩⟩, ?_⟩
  intro k o hk _ h2 _ _
  exact (hg.block k (Array.getElem?_eq_some_iff.1 hk).1 (fun e => h2 (Option.some.inj e))).trans hk
theorem dots_ne (ob : ByteArray) : (ob.toList == [46, 119, 111, 114, 100]) = decide (ob.data.toList = wordL) ∧ (ob.toList == [46, 100, 97, 116, 97]) = decide (ob.data.toList = dataL) := by
  rw [Lib.toList_data]
  exact ⟨Bool.eq_iff_iff.2 (by rw [beq_iff_eq, decide_eq_true_iff]; rfl), Bool.eq_iff_iff.2 (by rw [beq_iff_eq, decide_eq_true_iff]; rfl)⟩
theorem sl_grown {w w' : World} {g n N : Nat} {L : Option Addr} {xs : List Value} {k : TypeId} {R : Value → Option (DataW Unit × List MemPlace)} {D : DataW Unit} (h : Sl w w.heap.size L n xs) (hm : w.ownsMap Tryz.prog k R g N D) (hg : w.grownBy w' (some g)) : Sl w' w'.heap.size L n xs := by
  refine ⟨h.1, fun hn => ?_⟩
  obtain ⟨b, off, hL, hlt, hc⟩ := h.2 hn
  refine ⟨b, off, hL, Nat.lt_of_lt_of_le hlt hg.size, fun i u hu => ?_⟩
  have hbg : some b ≠ some g := by
    intro e
    have e2 : b = g := Option.some.inj e
    subst e2
    obtain ⟨es, clock, hb, _⟩ := hm
    have hx := hc i u hu
    unfold World.cell? at hx
    simp only [hb] at hx
    cases hx
  exact (World.cell?_of_block (a := ⟨b, off + i, none⟩) (hg.block b hlt hbg)).trans (hc i u hu)

set_option maxRecDepth 100000 in
set_option maxHeartbeats 4000000 in
theorem line_bad (q g c cu : Nat) (s : Asm) (A U : Option Addr) (n : Int) (l : ByteArray) (W : World) (B : Nat) (hB : B ≤ q) (hM : Mx W) (hl : l.size ≤ 100000) (h : Rs q g s A c U cu W)
    (hX : lineX l.data.toList = none) (X : Option Asm) (hZ : X = none) :
    Calls Tryz.prog 9 #[.pointer (some ⟨q, 0, none⟩), .int .i64 n, .string l] W (StepP B q g X W) := by
  have hq := h.m.lt
  have KL := asm_Line l W hl hM
  rw [hX] at KL
  have HKL := Lib.hid KL
  have HR := Lib.hid h
  have HZ := Lib.hid hZ
  clear KL hX hl hM h hZ
  go_enter Tryz.func9, Tryz.ntmps9
  go_wp2_with fail
  refine HKL.out.mono ?_
  intro e w1 hL
  obtain ⟨hb1, rfl⟩ := hL
  go_wp2_with fail
  go_returns
  exact StepP.bad HZ.out 3 (by decide) (hb1.mono (by omega)) (Kp.below hb1)

set_option maxRecDepth 100000 in
set_option maxHeartbeats 4000000 in
theorem line_dup (q g c cu : Nat) (s : Asm) (A U : Option Addr) (n : Int) (l : ByteArray) (W : World) (B : Nat) (hB : B ≤ q) (hM : Mx W) (hl : l.size ≤ 100000) (h : Rs q g s A c U cu W)
    (lb o : List UInt8) (gs : List (List UInt8)) (hX : lineX l.data.toList = some (lb, o, gs))
    (h1 : lb ≠ []) (hlz : lb.length ≤ 1000000) (h2 : (lookP lb s.pl).isSome = true)
    (X : Option Asm) (hZ : X = none) :
    Calls Tryz.prog 9 #[.pointer (some ⟨q, 0, none⟩), .int .i64 n, .string l] W (StepP B q g X W) := by
  have hq := h.m.lt
  have KL := asm_Line l W hl hM
  rw [hX] at KL
  have HKL := Lib.hid KL
  have HR := Lib.hid h
  have HZ := Lib.hid hZ
  clear KL hX hl hM h hZ
  obtain ⟨lbb, hlb⟩ : ∃ x : ByteArray, bs lb = x := ⟨_, rfl⟩
  have hlv : sv lb = .string lbb := by unfold sv; rw [hlb]
  have hll : lbb.data.toList = lb := by rw [← hlb]
  have hlz2 : lbb.size ≤ 1000000 := by rw [size_len, hll]; exact hlz
  have hlp : lbb.data.toList ≠ [] := by rw [hll]; exact h1
  obtain ⟨le1, le2⟩ := ne_nil lbb (pos_of hlp)
  have hkey : keyOf Tryz.prog 9 (.string lbb) = some (.string lb) := by rw [← hll]; exact WideMaps.keyOf_string_mk Tryz.underlying9 (by unfold maxLen; omega)
  obtain ⟨ob, hov⟩ : ∃ ob : ByteArray, sv o = .string ob := ⟨_, rfl⟩
  go_enter Tryz.func9, Tryz.ntmps9
  go_wp2_with fail
  refine HKL.out.mono ?_
  intro e w1 hL
  obtain ⟨hb1, L, cL, rfl, hS, -⟩ := hL
  rw [hlv, hov]
  have R1 := HR.out.below rfl hb1
  obtain ⟨D, hD, hP⟩ := R1.mp
  have hh := (hP.2 lb).1
  rw [h2] at hh
  obtain ⟨-, -, -, m3, -⟩ := R1.all
  go_wp2_with (first | (at_lookup; refine wpList_lookup_own_ok_int _ rfl _ _ 33 rfl 9 3 .i64 (string_keyed Tryz.underlying9) Tryz.underlying33 Tryz.underlying3 (by first | rfl | kernel_rfl) g s.pl.length D rfl hD _ _ rfl hkey ?_; intro vc hat hwc; rw [hh]; clear hat hwc))
  go_returns
  exact StepP.bad HZ.out 4 (by decide) (hb1.mono (by omega)) (Kp.below hb1)

set_option maxRecDepth 100000 in
set_option maxHeartbeats 4000000 in
theorem line_nolab_empty (q g c cu : Nat) (s : Asm) (A U : Option Addr) (n : Int) (l : ByteArray) (W : World) (B : Nat) (hB : B ≤ q) (hM : Mx W) (hl : l.size ≤ 100000) (h : Rs q g s A c U cu W)
    (lb o : List UInt8) (gs : List (List UInt8)) (hX : lineX l.data.toList = some (lb, o, gs))
    (h1 : lb = [])
    (h3 : o = [])
    (X : Option Asm) (hZ : X = some s) :
    Calls Tryz.prog 9 #[.pointer (some ⟨q, 0, none⟩), .int .i64 n, .string l] W (StepP B q g X W) := by
  have hq := h.m.lt
  have KL := asm_Line l W hl hM
  rw [hX] at KL
  have HKL := Lib.hid KL
  have HR := Lib.hid h
  have HZ := Lib.hid hZ
  clear KL hX hl hM h hZ
  obtain ⟨lbb, hlb⟩ : ∃ x : ByteArray, x = ⟨#[]⟩ := ⟨_, rfl⟩
  have hlv : sv lb = .string ⟨#[]⟩ := by rw [h1]; rfl
  obtain ⟨ob, hob⟩ : ∃ x : ByteArray, bs o = x := ⟨_, rfl⟩
  have hov : sv o = .string ob := by unfold sv; rw [hob]
  have hol : ob.data.toList = o := by rw [← hob]
  obtain rfl := empty_of (hol.trans h3)
  clear hob hol h3
  go_enter Tryz.func9, Tryz.ntmps9
  go_wp2_with fail
  refine HKL.out.mono ?_
  intro e w1 hL
  obtain ⟨hb1, L, cL, rfl, hS, -⟩ := hL
  rw [hlv, hov]
  have R1 := HR.out.below rfl hb1
  go_wp2_with fail
  have bV : Below B W w1 := hb1.mono (by omega)
  have kV : Kp q g W w1 := Kp.below hb1
  have sV := hS
  have RV := R1
  clear hb1 hS R1
  go_wp2_with fail
  go_returns
  exact StepP.good HZ.out bV kV RV

set_option maxRecDepth 100000 in
set_option maxHeartbeats 4000000 in
theorem line_nolab_word (q g c cu : Nat) (s : Asm) (A U : Option Addr) (n : Int) (l : ByteArray) (W : World) (B : Nat) (hB : B ≤ q) (hT : Small W) (hN : 4 < B) (hM : Mx W) (hl : l.size ≤ 100000) (h : Rs q g s A c U cu W)
    (lb o : List UInt8) (gs : List (List UInt8)) (hX : lineX l.data.toList = some (lb, o, gs)) (hgs : ∀ a ∈ gs, a.length ≤ 1000000)
    (h1 : lb = [])
    (h3 : o = wordL)
    (X : Option Asm) (hZ : X = dirX s o gs) :
    Calls Tryz.prog 9 #[.pointer (some ⟨q, 0, none⟩), .int .i64 n, .string l] W (StepP B q g X W) := by
  have hq := h.m.lt
  have KL := asm_Line l W hl hM
  rw [hX] at KL
  have HKL := Lib.hid KL
  have HR := Lib.hid h
  have HZ := Lib.hid hZ
  clear KL hX hl hM h hZ
  obtain ⟨lbb, hlb⟩ : ∃ x : ByteArray, x = ⟨#[]⟩ := ⟨_, rfl⟩
  have hlv : sv lb = .string ⟨#[]⟩ := by rw [h1]; rfl
  obtain ⟨ob, hob⟩ : ∃ x : ByteArray, bs o = x := ⟨_, rfl⟩
  have hov : sv o = .string ob := by unfold sv; rw [hob]
  have hol : ob.data.toList = o := by rw [← hob]
  have hop : ob.data.toList ≠ [] := by rw [hol, h3]; decide
  obtain ⟨oe1, oe2⟩ := ne_nil ob (pos_of hop)
  obtain ⟨d1, d2⟩ := dots_ne ob
  rw [hol] at d1 d2
  rw [h3] at d1 d2
  rw [decide_eq_true rfl] at d1
  rw [decide_eq_false (by decide)] at d2
  go_enter Tryz.func9, Tryz.ntmps9
  go_wp2_with fail
  refine HKL.out.mono ?_
  intro e w1 hL
  obtain ⟨hb1, L, cL, rfl, hS, -⟩ := hL
  rw [hlv, hov]
  have R1 := HR.out.below rfl hb1
  go_wp2_with fail
  have bV : Below B W w1 := hb1.mono (by omega)
  have kV : Kp q g W w1 := Kp.below hb1
  have sV := hS
  have RV := R1
  clear hb1 hS R1
  have KD := Lib.hid (asm_direct q g c cu cL s A U L ob gs w1 B hB (hT.below bV hN) (.inl (hol.trans h3)) sV hgs RV)
  rw [hol] at KD
  clear RV sV
  go_wp2_with fail
  refine KD.out.mono ?_
  intro e w9 hS
  rw [← HZ.out] at hS
  obtain ⟨z, rfl⟩ := hS.num
  have HS := Lib.hid (StepP.after bV kV hS)
  clear hS
  go_wp2_with fail
  go_returns
  exact HS.out

set_option maxRecDepth 100000 in
set_option maxHeartbeats 4000000 in
theorem line_nolab_data (q g c cu : Nat) (s : Asm) (A U : Option Addr) (n : Int) (l : ByteArray) (W : World) (B : Nat) (hB : B ≤ q) (hT : Small W) (hN : 4 < B) (hM : Mx W) (hl : l.size ≤ 100000) (h : Rs q g s A c U cu W)
    (lb o : List UInt8) (gs : List (List UInt8)) (hX : lineX l.data.toList = some (lb, o, gs)) (hgs : ∀ a ∈ gs, a.length ≤ 1000000)
    (h1 : lb = [])
    (h3 : o = dataL)
    (X : Option Asm) (hZ : X = dirX s o gs) :
    Calls Tryz.prog 9 #[.pointer (some ⟨q, 0, none⟩), .int .i64 n, .string l] W (StepP B q g X W) := by
  have hq := h.m.lt
  have KL := asm_Line l W hl hM
  rw [hX] at KL
  have HKL := Lib.hid KL
  have HR := Lib.hid h
  have HZ := Lib.hid hZ
  clear KL hX hl hM h hZ
  obtain ⟨lbb, hlb⟩ : ∃ x : ByteArray, x = ⟨#[]⟩ := ⟨_, rfl⟩
  have hlv : sv lb = .string ⟨#[]⟩ := by rw [h1]; rfl
  obtain ⟨ob, hob⟩ : ∃ x : ByteArray, bs o = x := ⟨_, rfl⟩
  have hov : sv o = .string ob := by unfold sv; rw [hob]
  have hol : ob.data.toList = o := by rw [← hob]
  have hop : ob.data.toList ≠ [] := by rw [hol, h3]; decide
  obtain ⟨oe1, oe2⟩ := ne_nil ob (pos_of hop)
  obtain ⟨d1, d2⟩ := dots_ne ob
  rw [hol] at d1 d2
  rw [h3] at d1 d2
  rw [decide_eq_true rfl] at d2
  rw [decide_eq_false (by decide)] at d1
  go_enter Tryz.func9, Tryz.ntmps9
  go_wp2_with fail
  refine HKL.out.mono ?_
  intro e w1 hL
  obtain ⟨hb1, L, cL, rfl, hS, -⟩ := hL
  rw [hlv, hov]
  have R1 := HR.out.below rfl hb1
  go_wp2_with fail
  have bV : Below B W w1 := hb1.mono (by omega)
  have kV : Kp q g W w1 := Kp.below hb1
  have sV := hS
  have RV := R1
  clear hb1 hS R1
  have KD := Lib.hid (asm_direct q g c cu cL s A U L ob gs w1 B hB (hT.below bV hN) (.inr (hol.trans h3)) sV hgs RV)
  rw [hol] at KD
  clear RV sV
  go_wp2_with fail
  refine KD.out.mono ?_
  intro e w9 hS
  rw [← HZ.out] at hS
  obtain ⟨z, rfl⟩ := hS.num
  have HS := Lib.hid (StepP.after bV kV hS)
  clear hS
  go_wp2_with fail
  go_returns
  exact HS.out

set_option maxRecDepth 100000 in
set_option maxHeartbeats 4000000 in
theorem line_nolab_noop (q g c cu : Nat) (s : Asm) (A U : Option Addr) (n : Int) (l : ByteArray) (W : World) (B : Nat) (hB : B ≤ q) (hM : Mx W) (hl : l.size ≤ 100000) (h : Rs q g s A c U cu W)
    (lb o : List UInt8) (gs : List (List UInt8)) (hX : lineX l.data.toList = some (lb, o, gs))
    (h1 : lb = [])
    (h3 : o ≠ []) (h4 : o ≠ wordL) (h5 : o ≠ dataL) (h6 : opI o = 0)
    (X : Option Asm) (hZ : X = none) :
    Calls Tryz.prog 9 #[.pointer (some ⟨q, 0, none⟩), .int .i64 n, .string l] W (StepP B q g X W) := by
  have hq := h.m.lt
  have KL := asm_Line l W hl hM
  rw [hX] at KL
  have HKL := Lib.hid KL
  have HR := Lib.hid h
  have HZ := Lib.hid hZ
  clear KL hX hl hM h hZ
  obtain ⟨lbb, hlb⟩ : ∃ x : ByteArray, x = ⟨#[]⟩ := ⟨_, rfl⟩
  have hlv : sv lb = .string ⟨#[]⟩ := by rw [h1]; rfl
  obtain ⟨ob, hob⟩ : ∃ x : ByteArray, bs o = x := ⟨_, rfl⟩
  have hov : sv o = .string ob := by unfold sv; rw [hob]
  have hol : ob.data.toList = o := by rw [← hob]
  have hop : ob.data.toList ≠ [] := by rw [hol]; exact h3
  obtain ⟨oe1, oe2⟩ := ne_nil ob (pos_of hop)
  obtain ⟨d1, d2⟩ := dots_ne ob
  rw [hol] at d1 d2
  rw [decide_eq_false h4] at d1
  rw [decide_eq_false h5] at d2
  have KI := inst_Op ob
  rw [hol, h6] at KI
  have HKI := Lib.hid KI
  clear KI
  go_enter Tryz.func9, Tryz.ntmps9
  go_wp2_with fail
  refine HKL.out.mono ?_
  intro e w1 hL
  obtain ⟨hb1, L, cL, rfl, hS, -⟩ := hL
  rw [hlv, hov]
  have R1 := HR.out.below rfl hb1
  go_wp2_with fail
  have bV : Below B W w1 := hb1.mono (by omega)
  have kV : Kp q g W w1 := Kp.below hb1
  have sV := hS
  have RV := R1
  clear hb1 hS R1
  go_wp2_with fail
  refine (HKI.out _).mono ?_
  rintro e w2 ⟨rfl, b2⟩
  go_wp2_with fail
  go_returns
  exact StepP.bad HZ.out 4 (by decide) (bV.trans (b2.mono (by have := bV.size; omega))) (kV.trans (Kp.below b2))

set_option maxRecDepth 100000 in
set_option maxHeartbeats 4000000 in
theorem line_nolab_op (q g c cu : Nat) (s : Asm) (A U : Option Addr) (n : Int) (l : ByteArray) (W : World) (B : Nat) (hB : B ≤ q) (hT : Small W) (hN : 4 < B) (hu : s.us.length ≤ 1000000) (hM : Mx W) (hl : l.size ≤ 100000) (h : Rs q g s A c U cu W)
    (lb o : List UInt8) (gs : List (List UInt8)) (hX : lineX l.data.toList = some (lb, o, gs)) (hgs : ∀ a ∈ gs, a.length ≤ 1000000)
    (h1 : lb = [])
    (h3 : o ≠ []) (h4 : o ≠ wordL) (h5 : o ≠ dataL) (op : Int) (h6 : opI o = op) (h7 : 1 ≤ op) (h8 : op < 28)
    (X : Option Asm) (hZ : X = insX s n op gs) :
    Calls Tryz.prog 9 #[.pointer (some ⟨q, 0, none⟩), .int .i64 n, .string l] W (StepP B q g X W) := by
  have hq := h.m.lt
  have KL := asm_Line l W hl hM
  rw [hX] at KL
  have HKL := Lib.hid KL
  have HR := Lib.hid h
  have HZ := Lib.hid hZ
  clear KL hX hl hM h hZ
  obtain ⟨lbb, hlb⟩ : ∃ x : ByteArray, x = ⟨#[]⟩ := ⟨_, rfl⟩
  have hlv : sv lb = .string ⟨#[]⟩ := by rw [h1]; rfl
  obtain ⟨ob, hob⟩ : ∃ x : ByteArray, bs o = x := ⟨_, rfl⟩
  have hov : sv o = .string ob := by unfold sv; rw [hob]
  have hol : ob.data.toList = o := by rw [← hob]
  have hop : ob.data.toList ≠ [] := by rw [hol]; exact h3
  obtain ⟨oe1, oe2⟩ := ne_nil ob (pos_of hop)
  obtain ⟨d1, d2⟩ := dots_ne ob
  rw [hol] at d1 d2
  rw [decide_eq_false h4] at d1
  rw [decide_eq_false h5] at d2
  have KI := inst_Op ob
  rw [hol, h6] at KI
  have HKI := Lib.hid KI
  clear KI
  have e8 : (op == 0) = false := by rw [beq_eq_false_iff_ne]; omega
  go_enter Tryz.func9, Tryz.ntmps9
  go_wp2_with fail
  refine HKL.out.mono ?_
  intro e w1 hL
  obtain ⟨hb1, L, cL, rfl, hS, -⟩ := hL
  rw [hlv, hov]
  have R1 := HR.out.below rfl hb1
  go_wp2_with fail
  have bV : Below B W w1 := hb1.mono (by omega)
  have kV : Kp q g W w1 := Kp.below hb1
  have sV := hS
  have RV := R1
  clear hb1 hS R1
  go_wp2_with fail
  refine (HKI.out _).mono ?_
  rintro e w2 ⟨rfl, b2⟩
  have b3 := bV.trans (b2.mono (show B ≤ w1.heap.size by have := bV.size; omega))
  have k3 := kV.trans (Kp.below b2)
  have R3 := RV.below rfl b2
  have s3 := (sV.below b2).more b2.size
  clear b2 bV kV RV sV
  have HR3 := Lib.hid R3
  have HS3 := Lib.hid s3
  have HT := Lib.hid hT
  clear R3 s3 hT
  go_wp2_with fail
  refine (HKI.out _).mono ?_
  rintro e w4 ⟨rfl, b4⟩
  have b5 := b3.trans (b4.mono (show B ≤ w2.heap.size by have := b3.size; omega))
  have k5 := k3.trans (Kp.below b4)
  have KN := Lib.hid (asm_instruction q g c cu cL s A U L n op gs w4 B hB (HT.out.below b5 hN) h7 h8 ((HS3.out.below b4).more b4.size) hgs hu (HR3.out.below rfl b4))
  clear b3 b4 k3
  go_wp2_with fail
  refine KN.out.mono ?_
  intro e w9 hS
  rw [← HZ.out] at hS
  obtain ⟨z, rfl⟩ := hS.num
  have HS := Lib.hid (StepP.after b5 k5 hS)
  clear hS
  go_wp2_with fail
  go_returns
  exact HS.out

set_option maxRecDepth 100000 in
set_option maxHeartbeats 4000000 in
theorem line_lab_empty (q g c cu : Nat) (s : Asm) (A U : Option Addr) (n : Int) (l : ByteArray) (W : World) (B : Nat) (hB : B ≤ q) (hBg : B ≤ g) (hc : s.code.length ≤ 16384) (hp : s.pl.length ≤ 1000000) (hM : Mx W) (hl : l.size ≤ 100000) (h : Rs q g s A c U cu W)
    (lb o : List UInt8) (gs : List (List UInt8)) (hX : lineX l.data.toList = some (lb, o, gs))
    (h1 : lb ≠ []) (hlz : lb.length ≤ 1000000) (h2 : (lookP lb s.pl).isSome = false)
    (h3 : o = [])
    (X : Option Asm) (hZ : X = some { s with pl := (lb, s.code.length) :: s.pl }) :
    Calls Tryz.prog 9 #[.pointer (some ⟨q, 0, none⟩), .int .i64 n, .string l] W (StepP B q g X W) := by
  have hq := h.m.lt
  have KL := asm_Line l W hl hM
  rw [hX] at KL
  have HKL := Lib.hid KL
  have HR := Lib.hid h
  have HZ := Lib.hid hZ
  clear KL hX hl hM h hZ
  obtain ⟨lbb, hlb⟩ : ∃ x : ByteArray, bs lb = x := ⟨_, rfl⟩
  have hlv : sv lb = .string lbb := by unfold sv; rw [hlb]
  have hll : lbb.data.toList = lb := by rw [← hlb]
  have hlz2 : lbb.size ≤ 1000000 := by rw [size_len, hll]; exact hlz
  have hlp : lbb.data.toList ≠ [] := by rw [hll]; exact h1
  obtain ⟨le1, le2⟩ := ne_nil lbb (pos_of hlp)
  have hkey : keyOf Tryz.prog 9 (.string lbb) = some (.string lb) := by rw [← hll]; exact WideMaps.keyOf_string_mk Tryz.underlying9 (by unfold maxLen; omega)
  obtain ⟨ob, hob⟩ : ∃ x : ByteArray, bs o = x := ⟨_, rfl⟩
  have hov : sv o = .string ob := by unfold sv; rw [hob]
  have hol : ob.data.toList = o := by rw [← hob]
  obtain rfl := empty_of (hol.trans h3)
  clear hob hol h3
  go_enter Tryz.func9, Tryz.ntmps9
  go_wp2_with fail
  refine HKL.out.mono ?_
  intro e w1 hL
  obtain ⟨hb1, L, cL, rfl, hS, -⟩ := hL
  rw [hlv, hov]
  have R1 := HR.out.below rfl hb1
  obtain ⟨D, hD, hP⟩ := R1.mp
  have hh := (hP.2 lb).1
  rw [h2] at hh
  obtain ⟨-, -, -, m3, -⟩ := R1.all
  go_wp2_with (first | (at_lookup; refine wpList_lookup_own_ok_int _ rfl _ _ 33 rfl 9 3 .i64 (string_keyed Tryz.underlying9) Tryz.underlying33 Tryz.underlying3 (by first | rfl | kernel_rfl) g s.pl.length D rfl hD _ _ rfl hkey ?_; intro vc hat hwc; rw [hh]; clear hat hwc))
  obtain ⟨V, hrun, hD2, hgr⟩ := (show (w1.drew).ownsMap Tryz.prog 9 (plainElem (H := Unit) Tryz.prog 3) g s.pl.length D from hD).update (string_keyed Tryz.underlying9) Tryz.underlying33 (show s.pl.length < maxLen by unfold maxLen; omega) hkey (plainElem_int (H := Unit) (q := .i64) Tryz.underlying3 (a := (s.code.length : Nat)) (WalkArith.wf_i64 (by omega)))
  obtain ⟨m0, -, -, -, -⟩ := R1.all
  obtain ⟨RV, kR⟩ := R1.drew.label (lb := lb) hD hP hD2 hgr
  have sV := sl_grown (show Sl w1.drew w1.drew.heap.size L gs.length (gs.map sv) from hS) hD hgr
  have bV : Below B W V := ((hb1.mono (show B ≤ W.heap.size by omega)).drew).grown hgr (by have := hb1.size; show B ≤ w1.heap.size; omega) (fun k hk => by obtain rfl := Option.some.inj hk; exact hBg)
  have kV : Kp q g W V := (Kp.below hb1).trans (show Kp q g w1 V from kR)
  clear hb1 hS R1 kR hD hP hD2 hgr hh hkey
  go_region
  all_goals
    clear hrun m0 m3
    go_wp2_with fail
    go_returns
    exact StepP.good HZ.out bV kV RV

set_option maxRecDepth 100000 in
set_option maxHeartbeats 4000000 in
theorem line_lab_word (q g c cu : Nat) (s : Asm) (A U : Option Addr) (n : Int) (l : ByteArray) (W : World) (B : Nat) (hB : B ≤ q) (hBg : B ≤ g) (hc : s.code.length ≤ 16384) (hp : s.pl.length ≤ 1000000) (hT : Small W) (hN : 4 < B) (hM : Mx W) (hl : l.size ≤ 100000) (h : Rs q g s A c U cu W)
    (lb o : List UInt8) (gs : List (List UInt8)) (hX : lineX l.data.toList = some (lb, o, gs)) (hgs : ∀ a ∈ gs, a.length ≤ 1000000)
    (h1 : lb ≠ []) (hlz : lb.length ≤ 1000000) (h2 : (lookP lb s.pl).isSome = false)
    (h3 : o = wordL)
    (X : Option Asm) (hZ : X = dirX { s with pl := (lb, s.code.length) :: s.pl } o gs) :
    Calls Tryz.prog 9 #[.pointer (some ⟨q, 0, none⟩), .int .i64 n, .string l] W (StepP B q g X W) := by
  have hq := h.m.lt
  have KL := asm_Line l W hl hM
  rw [hX] at KL
  have HKL := Lib.hid KL
  have HR := Lib.hid h
  have HZ := Lib.hid hZ
  clear KL hX hl hM h hZ
  obtain ⟨lbb, hlb⟩ : ∃ x : ByteArray, bs lb = x := ⟨_, rfl⟩
  have hlv : sv lb = .string lbb := by unfold sv; rw [hlb]
  have hll : lbb.data.toList = lb := by rw [← hlb]
  have hlz2 : lbb.size ≤ 1000000 := by rw [size_len, hll]; exact hlz
  have hlp : lbb.data.toList ≠ [] := by rw [hll]; exact h1
  obtain ⟨le1, le2⟩ := ne_nil lbb (pos_of hlp)
  have hkey : keyOf Tryz.prog 9 (.string lbb) = some (.string lb) := by rw [← hll]; exact WideMaps.keyOf_string_mk Tryz.underlying9 (by unfold maxLen; omega)
  obtain ⟨ob, hob⟩ : ∃ x : ByteArray, bs o = x := ⟨_, rfl⟩
  have hov : sv o = .string ob := by unfold sv; rw [hob]
  have hol : ob.data.toList = o := by rw [← hob]
  have hop : ob.data.toList ≠ [] := by rw [hol, h3]; decide
  obtain ⟨oe1, oe2⟩ := ne_nil ob (pos_of hop)
  obtain ⟨d1, d2⟩ := dots_ne ob
  rw [hol] at d1 d2
  rw [h3] at d1 d2
  rw [decide_eq_true rfl] at d1
  rw [decide_eq_false (by decide)] at d2
  go_enter Tryz.func9, Tryz.ntmps9
  go_wp2_with fail
  refine HKL.out.mono ?_
  intro e w1 hL
  obtain ⟨hb1, L, cL, rfl, hS, -⟩ := hL
  rw [hlv, hov]
  have R1 := HR.out.below rfl hb1
  obtain ⟨D, hD, hP⟩ := R1.mp
  have hh := (hP.2 lb).1
  rw [h2] at hh
  obtain ⟨-, -, -, m3, -⟩ := R1.all
  go_wp2_with (first | (at_lookup; refine wpList_lookup_own_ok_int _ rfl _ _ 33 rfl 9 3 .i64 (string_keyed Tryz.underlying9) Tryz.underlying33 Tryz.underlying3 (by first | rfl | kernel_rfl) g s.pl.length D rfl hD _ _ rfl hkey ?_; intro vc hat hwc; rw [hh]; clear hat hwc))
  obtain ⟨V, hrun, hD2, hgr⟩ := (show (w1.drew).ownsMap Tryz.prog 9 (plainElem (H := Unit) Tryz.prog 3) g s.pl.length D from hD).update (string_keyed Tryz.underlying9) Tryz.underlying33 (show s.pl.length < maxLen by unfold maxLen; omega) hkey (plainElem_int (H := Unit) (q := .i64) Tryz.underlying3 (a := (s.code.length : Nat)) (WalkArith.wf_i64 (by omega)))
  obtain ⟨m0, -, -, -, -⟩ := R1.all
  obtain ⟨RV, kR⟩ := R1.drew.label (lb := lb) hD hP hD2 hgr
  have sV := sl_grown (show Sl w1.drew w1.drew.heap.size L gs.length (gs.map sv) from hS) hD hgr
  have bV : Below B W V := ((hb1.mono (show B ≤ W.heap.size by omega)).drew).grown hgr (by have := hb1.size; show B ≤ w1.heap.size; omega) (fun k hk => by obtain rfl := Option.some.inj hk; exact hBg)
  have kV : Kp q g W V := (Kp.below hb1).trans (show Kp q g w1 V from kR)
  clear hb1 hS R1 kR hD hP hD2 hgr hh hkey
  go_region
  all_goals
    clear hrun m0 m3
    have KD := Lib.hid (asm_direct q g c cu cL { s with pl := (lb, s.code.length) :: s.pl } A U L ob gs V B hB (hT.below bV hN) (.inl (hol.trans h3)) sV hgs RV)
    rw [hol] at KD
    clear RV sV
    go_wp2_with fail
    refine KD.out.mono ?_
    intro e w9 hS
    rw [← HZ.out] at hS
    obtain ⟨z, rfl⟩ := hS.num
    have HS := Lib.hid (StepP.after bV kV hS)
    clear hS
    go_wp2_with fail
    go_returns
    exact HS.out

set_option maxRecDepth 100000 in
set_option maxHeartbeats 4000000 in
theorem line_lab_data (q g c cu : Nat) (s : Asm) (A U : Option Addr) (n : Int) (l : ByteArray) (W : World) (B : Nat) (hB : B ≤ q) (hBg : B ≤ g) (hc : s.code.length ≤ 16384) (hp : s.pl.length ≤ 1000000) (hT : Small W) (hN : 4 < B) (hM : Mx W) (hl : l.size ≤ 100000) (h : Rs q g s A c U cu W)
    (lb o : List UInt8) (gs : List (List UInt8)) (hX : lineX l.data.toList = some (lb, o, gs)) (hgs : ∀ a ∈ gs, a.length ≤ 1000000)
    (h1 : lb ≠ []) (hlz : lb.length ≤ 1000000) (h2 : (lookP lb s.pl).isSome = false)
    (h3 : o = dataL)
    (X : Option Asm) (hZ : X = dirX { s with pl := (lb, s.code.length) :: s.pl } o gs) :
    Calls Tryz.prog 9 #[.pointer (some ⟨q, 0, none⟩), .int .i64 n, .string l] W (StepP B q g X W) := by
  have hq := h.m.lt
  have KL := asm_Line l W hl hM
  rw [hX] at KL
  have HKL := Lib.hid KL
  have HR := Lib.hid h
  have HZ := Lib.hid hZ
  clear KL hX hl hM h hZ
  obtain ⟨lbb, hlb⟩ : ∃ x : ByteArray, bs lb = x := ⟨_, rfl⟩
  have hlv : sv lb = .string lbb := by unfold sv; rw [hlb]
  have hll : lbb.data.toList = lb := by rw [← hlb]
  have hlz2 : lbb.size ≤ 1000000 := by rw [size_len, hll]; exact hlz
  have hlp : lbb.data.toList ≠ [] := by rw [hll]; exact h1
  obtain ⟨le1, le2⟩ := ne_nil lbb (pos_of hlp)
  have hkey : keyOf Tryz.prog 9 (.string lbb) = some (.string lb) := by rw [← hll]; exact WideMaps.keyOf_string_mk Tryz.underlying9 (by unfold maxLen; omega)
  obtain ⟨ob, hob⟩ : ∃ x : ByteArray, bs o = x := ⟨_, rfl⟩
  have hov : sv o = .string ob := by unfold sv; rw [hob]
  have hol : ob.data.toList = o := by rw [← hob]
  have hop : ob.data.toList ≠ [] := by rw [hol, h3]; decide
  obtain ⟨oe1, oe2⟩ := ne_nil ob (pos_of hop)
  obtain ⟨d1, d2⟩ := dots_ne ob
  rw [hol] at d1 d2
  rw [h3] at d1 d2
  rw [decide_eq_true rfl] at d2
  rw [decide_eq_false (by decide)] at d1
  go_enter Tryz.func9, Tryz.ntmps9
  go_wp2_with fail
  refine HKL.out.mono ?_
  intro e w1 hL
  obtain ⟨hb1, L, cL, rfl, hS, -⟩ := hL
  rw [hlv, hov]
  have R1 := HR.out.below rfl hb1
  obtain ⟨D, hD, hP⟩ := R1.mp
  have hh := (hP.2 lb).1
  rw [h2] at hh
  obtain ⟨-, -, -, m3, -⟩ := R1.all
  go_wp2_with (first | (at_lookup; refine wpList_lookup_own_ok_int _ rfl _ _ 33 rfl 9 3 .i64 (string_keyed Tryz.underlying9) Tryz.underlying33 Tryz.underlying3 (by first | rfl | kernel_rfl) g s.pl.length D rfl hD _ _ rfl hkey ?_; intro vc hat hwc; rw [hh]; clear hat hwc))
  obtain ⟨V, hrun, hD2, hgr⟩ := (show (w1.drew).ownsMap Tryz.prog 9 (plainElem (H := Unit) Tryz.prog 3) g s.pl.length D from hD).update (string_keyed Tryz.underlying9) Tryz.underlying33 (show s.pl.length < maxLen by unfold maxLen; omega) hkey (plainElem_int (H := Unit) (q := .i64) Tryz.underlying3 (a := (s.code.length : Nat)) (WalkArith.wf_i64 (by omega)))
  obtain ⟨m0, -, -, -, -⟩ := R1.all
  obtain ⟨RV, kR⟩ := R1.drew.label (lb := lb) hD hP hD2 hgr
  have sV := sl_grown (show Sl w1.drew w1.drew.heap.size L gs.length (gs.map sv) from hS) hD hgr
  have bV : Below B W V := ((hb1.mono (show B ≤ W.heap.size by omega)).drew).grown hgr (by have := hb1.size; show B ≤ w1.heap.size; omega) (fun k hk => by obtain rfl := Option.some.inj hk; exact hBg)
  have kV : Kp q g W V := (Kp.below hb1).trans (show Kp q g w1 V from kR)
  clear hb1 hS R1 kR hD hP hD2 hgr hh hkey
  go_region
  all_goals
    clear hrun m0 m3
    have KD := Lib.hid (asm_direct q g c cu cL { s with pl := (lb, s.code.length) :: s.pl } A U L ob gs V B hB (hT.below bV hN) (.inr (hol.trans h3)) sV hgs RV)
    rw [hol] at KD
    clear RV sV
    go_wp2_with fail
    refine KD.out.mono ?_
    intro e w9 hS
    rw [← HZ.out] at hS
    obtain ⟨z, rfl⟩ := hS.num
    have HS := Lib.hid (StepP.after bV kV hS)
    clear hS
    go_wp2_with fail
    go_returns
    exact HS.out

set_option maxRecDepth 100000 in
set_option maxHeartbeats 4000000 in
theorem line_lab_noop (q g c cu : Nat) (s : Asm) (A U : Option Addr) (n : Int) (l : ByteArray) (W : World) (B : Nat) (hB : B ≤ q) (hBg : B ≤ g) (hc : s.code.length ≤ 16384) (hp : s.pl.length ≤ 1000000) (hM : Mx W) (hl : l.size ≤ 100000) (h : Rs q g s A c U cu W)
    (lb o : List UInt8) (gs : List (List UInt8)) (hX : lineX l.data.toList = some (lb, o, gs))
    (h1 : lb ≠ []) (hlz : lb.length ≤ 1000000) (h2 : (lookP lb s.pl).isSome = false)
    (h3 : o ≠ []) (h4 : o ≠ wordL) (h5 : o ≠ dataL) (h6 : opI o = 0)
    (X : Option Asm) (hZ : X = none) :
    Calls Tryz.prog 9 #[.pointer (some ⟨q, 0, none⟩), .int .i64 n, .string l] W (StepP B q g X W) := by
  have hq := h.m.lt
  have KL := asm_Line l W hl hM
  rw [hX] at KL
  have HKL := Lib.hid KL
  have HR := Lib.hid h
  have HZ := Lib.hid hZ
  clear KL hX hl hM h hZ
  obtain ⟨lbb, hlb⟩ : ∃ x : ByteArray, bs lb = x := ⟨_, rfl⟩
  have hlv : sv lb = .string lbb := by unfold sv; rw [hlb]
  have hll : lbb.data.toList = lb := by rw [← hlb]
  have hlz2 : lbb.size ≤ 1000000 := by rw [size_len, hll]; exact hlz
  have hlp : lbb.data.toList ≠ [] := by rw [hll]; exact h1
  obtain ⟨le1, le2⟩ := ne_nil lbb (pos_of hlp)
  have hkey : keyOf Tryz.prog 9 (.string lbb) = some (.string lb) := by rw [← hll]; exact WideMaps.keyOf_string_mk Tryz.underlying9 (by unfold maxLen; omega)
  obtain ⟨ob, hob⟩ : ∃ x : ByteArray, bs o = x := ⟨_, rfl⟩
  have hov : sv o = .string ob := by unfold sv; rw [hob]
  have hol : ob.data.toList = o := by rw [← hob]
  have hop : ob.data.toList ≠ [] := by rw [hol]; exact h3
  obtain ⟨oe1, oe2⟩ := ne_nil ob (pos_of hop)
  obtain ⟨d1, d2⟩ := dots_ne ob
  rw [hol] at d1 d2
  rw [decide_eq_false h4] at d1
  rw [decide_eq_false h5] at d2
  have KI := inst_Op ob
  rw [hol, h6] at KI
  have HKI := Lib.hid KI
  clear KI
  go_enter Tryz.func9, Tryz.ntmps9
  go_wp2_with fail
  refine HKL.out.mono ?_
  intro e w1 hL
  obtain ⟨hb1, L, cL, rfl, hS, -⟩ := hL
  rw [hlv, hov]
  have R1 := HR.out.below rfl hb1
  obtain ⟨D, hD, hP⟩ := R1.mp
  have hh := (hP.2 lb).1
  rw [h2] at hh
  obtain ⟨-, -, -, m3, -⟩ := R1.all
  go_wp2_with (first | (at_lookup; refine wpList_lookup_own_ok_int _ rfl _ _ 33 rfl 9 3 .i64 (string_keyed Tryz.underlying9) Tryz.underlying33 Tryz.underlying3 (by first | rfl | kernel_rfl) g s.pl.length D rfl hD _ _ rfl hkey ?_; intro vc hat hwc; rw [hh]; clear hat hwc))
  obtain ⟨V, hrun, hD2, hgr⟩ := (show (w1.drew).ownsMap Tryz.prog 9 (plainElem (H := Unit) Tryz.prog 3) g s.pl.length D from hD).update (string_keyed Tryz.underlying9) Tryz.underlying33 (show s.pl.length < maxLen by unfold maxLen; omega) hkey (plainElem_int (H := Unit) (q := .i64) Tryz.underlying3 (a := (s.code.length : Nat)) (WalkArith.wf_i64 (by omega)))
  obtain ⟨m0, -, -, -, -⟩ := R1.all
  obtain ⟨RV, kR⟩ := R1.drew.label (lb := lb) hD hP hD2 hgr
  have sV := sl_grown (show Sl w1.drew w1.drew.heap.size L gs.length (gs.map sv) from hS) hD hgr
  have bV : Below B W V := ((hb1.mono (show B ≤ W.heap.size by omega)).drew).grown hgr (by have := hb1.size; show B ≤ w1.heap.size; omega) (fun k hk => by obtain rfl := Option.some.inj hk; exact hBg)
  have kV : Kp q g W V := (Kp.below hb1).trans (show Kp q g w1 V from kR)
  clear hb1 hS R1 kR hD hP hD2 hgr hh hkey
  go_region
  all_goals
    clear hrun m0 m3
    go_wp2_with fail
    refine (HKI.out _).mono ?_
    rintro e w2 ⟨rfl, b2⟩
    go_wp2_with fail
    go_returns
    exact StepP.bad HZ.out 4 (by decide) (bV.trans (b2.mono (by have := bV.size; omega))) (kV.trans (Kp.below b2))

set_option maxRecDepth 100000 in
set_option maxHeartbeats 4000000 in
theorem line_lab_op (q g c cu : Nat) (s : Asm) (A U : Option Addr) (n : Int) (l : ByteArray) (W : World) (B : Nat) (hB : B ≤ q) (hBg : B ≤ g) (hc : s.code.length ≤ 16384) (hp : s.pl.length ≤ 1000000) (hT : Small W) (hN : 4 < B) (hu : s.us.length ≤ 1000000) (hM : Mx W) (hl : l.size ≤ 100000) (h : Rs q g s A c U cu W)
    (lb o : List UInt8) (gs : List (List UInt8)) (hX : lineX l.data.toList = some (lb, o, gs)) (hgs : ∀ a ∈ gs, a.length ≤ 1000000)
    (h1 : lb ≠ []) (hlz : lb.length ≤ 1000000) (h2 : (lookP lb s.pl).isSome = false)
    (h3 : o ≠ []) (h4 : o ≠ wordL) (h5 : o ≠ dataL) (op : Int) (h6 : opI o = op) (h7 : 1 ≤ op) (h8 : op < 28)
    (X : Option Asm) (hZ : X = insX { s with pl := (lb, s.code.length) :: s.pl } n op gs) :
    Calls Tryz.prog 9 #[.pointer (some ⟨q, 0, none⟩), .int .i64 n, .string l] W (StepP B q g X W) := by
  have hq := h.m.lt
  have KL := asm_Line l W hl hM
  rw [hX] at KL
  have HKL := Lib.hid KL
  have HR := Lib.hid h
  have HZ := Lib.hid hZ
  clear KL hX hl hM h hZ
  obtain ⟨lbb, hlb⟩ : ∃ x : ByteArray, bs lb = x := ⟨_, rfl⟩
  have hlv : sv lb = .string lbb := by unfold sv; rw [hlb]
  have hll : lbb.data.toList = lb := by rw [← hlb]
  have hlz2 : lbb.size ≤ 1000000 := by rw [size_len, hll]; exact hlz
  have hlp : lbb.data.toList ≠ [] := by rw [hll]; exact h1
  obtain ⟨le1, le2⟩ := ne_nil lbb (pos_of hlp)
  have hkey : keyOf Tryz.prog 9 (.string lbb) = some (.string lb) := by rw [← hll]; exact WideMaps.keyOf_string_mk Tryz.underlying9 (by unfold maxLen; omega)
  obtain ⟨ob, hob⟩ : ∃ x : ByteArray, bs o = x := ⟨_, rfl⟩
  have hov : sv o = .string ob := by unfold sv; rw [hob]
  have hol : ob.data.toList = o := by rw [← hob]
  have hop : ob.data.toList ≠ [] := by rw [hol]; exact h3
  obtain ⟨oe1, oe2⟩ := ne_nil ob (pos_of hop)
  obtain ⟨d1, d2⟩ := dots_ne ob
  rw [hol] at d1 d2
  rw [decide_eq_false h4] at d1
  rw [decide_eq_false h5] at d2
  have KI := inst_Op ob
  rw [hol, h6] at KI
  have HKI := Lib.hid KI
  clear KI
  have e8 : (op == 0) = false := by rw [beq_eq_false_iff_ne]; omega
  go_enter Tryz.func9, Tryz.ntmps9
  go_wp2_with fail
  refine HKL.out.mono ?_
  intro e w1 hL
  obtain ⟨hb1, L, cL, rfl, hS, -⟩ := hL
  rw [hlv, hov]
  have R1 := HR.out.below rfl hb1
  obtain ⟨D, hD, hP⟩ := R1.mp
  have hh := (hP.2 lb).1
  rw [h2] at hh
  obtain ⟨-, -, -, m3, -⟩ := R1.all
  go_wp2_with (first | (at_lookup; refine wpList_lookup_own_ok_int _ rfl _ _ 33 rfl 9 3 .i64 (string_keyed Tryz.underlying9) Tryz.underlying33 Tryz.underlying3 (by first | rfl | kernel_rfl) g s.pl.length D rfl hD _ _ rfl hkey ?_; intro vc hat hwc; rw [hh]; clear hat hwc))
  obtain ⟨V, hrun, hD2, hgr⟩ := (show (w1.drew).ownsMap Tryz.prog 9 (plainElem (H := Unit) Tryz.prog 3) g s.pl.length D from hD).update (string_keyed Tryz.underlying9) Tryz.underlying33 (show s.pl.length < maxLen by unfold maxLen; omega) hkey (plainElem_int (H := Unit) (q := .i64) Tryz.underlying3 (a := (s.code.length : Nat)) (WalkArith.wf_i64 (by omega)))
  obtain ⟨m0, -, -, -, -⟩ := R1.all
  obtain ⟨RV, kR⟩ := R1.drew.label (lb := lb) hD hP hD2 hgr
  have sV := sl_grown (show Sl w1.drew w1.drew.heap.size L gs.length (gs.map sv) from hS) hD hgr
  have bV : Below B W V := ((hb1.mono (show B ≤ W.heap.size by omega)).drew).grown hgr (by have := hb1.size; show B ≤ w1.heap.size; omega) (fun k hk => by obtain rfl := Option.some.inj hk; exact hBg)
  have kV : Kp q g W V := (Kp.below hb1).trans (show Kp q g w1 V from kR)
  clear hb1 hS R1 kR hD hP hD2 hgr hh hkey
  go_region
  all_goals
    clear hrun m0 m3
    go_wp2_with fail
    refine (HKI.out _).mono ?_
    rintro e w2 ⟨rfl, b2⟩
    have b3 := bV.trans (b2.mono (show B ≤ V.heap.size by have := bV.size; omega))
    have k3 := kV.trans (Kp.below b2)
    have R3 := RV.below rfl b2
    have s3 := (sV.below b2).more b2.size
    clear b2 bV kV RV sV
    have HR3 := Lib.hid R3
    have HS3 := Lib.hid s3
    have HT := Lib.hid hT
    clear R3 s3 hT
    go_wp2_with fail
    refine (HKI.out _).mono ?_
    rintro e w4 ⟨rfl, b4⟩
    have b5 := b3.trans (b4.mono (show B ≤ w2.heap.size by have := b3.size; omega))
    have k5 := k3.trans (Kp.below b4)
    have KN := Lib.hid (asm_instruction q g c cu cL { s with pl := (lb, s.code.length) :: s.pl } A U L n op gs w4 B hB (HT.out.below b5 hN) h7 h8 ((HS3.out.below b4).more b4.size) hgs hu (HR3.out.below rfl b4))
    clear b3 b4 k3
    go_wp2_with fail
    refine KN.out.mono ?_
    intro e w9 hS
    rw [← HZ.out] at hS
    obtain ⟨z, rfl⟩ := hS.num
    have HS := Lib.hid (StepP.after b5 k5 hS)
    clear hS
    go_wp2_with fail
    go_returns
    exact HS.out

end Go.Proofs.YtknonabeagbjeaaGreatDoor
