/- The law ListingLines, walked. -/
import Derived.Test.YtneebohaanjejaaDoorLk
import Derived.Test.YtneebohaanjejaaDoorLq
import Derived.Test.YtneebohaanjejaaDoorLawLTargets
import Derived.Deep.RegionHeld3
namespace Go.Proofs.YtneebohaanjejaaDoor
open Go.RowKit

/-- The image's box, the lines, the targets. -/
structure Ll (w : World) (A : Option Addr) (n c : Nat) (d : Int) (L : Option Addr) (p : Nat) (ls : List (List UInt8)) (T : Option Addr) (q : Nat) (ts : List Nat) (W : World) : Prop where
  t : Tg w A n c d W
  l : Sl W W.heap.size L p (ls.map sv)
  s : Sl W W.heap.size T q (ts.map tv)
section
variable {w W W' : World} {A L T : Option Addr} {n c p q : Nat} {d : Int} {ls : List (List UInt8)} {ts : List Nat}
theorem Ll.below (h : Ll w A n c d L p ls T q ts W) {B : Nat} (hB : B = W.heap.size) (hb : Below B W W') : Ll w A n c d L p ls T q ts W' := by
  subst hB
  exact ⟨h.t.below hb, (h.l.below hb).more hb.size, (h.s.below hb).more hb.size⟩
theorem Ll.drew (h : Ll w A n c d L p ls T q ts W) : Ll w A n c d L p ls T q ts W.drew := h.below rfl (Below.refl _ W).drew
end
theorem sl_first {W : World} {B n : Nat} {L : Option Addr} {x : List UInt8} {r : List (List UInt8)} (h : Sl W B L n ((x :: r).map sv)) : ∃ b off, L = some ⟨b, off, none⟩ ∧ W.cell? ⟨b, off, none⟩ = some (.string ⟨x.toArray⟩) := by
  have hn := h.1
  simp only [List.length_map, List.length_cons] at hn
  obtain ⟨b, off, e, _, hc⟩ := h.2 (by omega)
  exact ⟨b, off, e, hc 0 _ rfl⟩
theorem sl_rest {W : World} {B b off : Nat} {n c : Nat} {x : Value} {r : List Value} (h : Sl W B (some ⟨b, off, none⟩) n (x :: r)) (_hc : n ≤ c) : Sl W B (some ⟨b, off + 1, none⟩) r.length r := by
  have hn := h.1
  simp only [List.length_cons] at hn
  obtain ⟨b', off', e, hlt, hcs⟩ := h.2 (by omega)
  injection e with e
  injection e with e1 e2 _
  subst e1 e2
  refine ⟨rfl, fun _ => ⟨b, off + 1, rfl, hlt, fun i u hu => ?_⟩⟩
  have k := hcs (i + 1) u hu
  rw [show off + 1 + i = off + (i + 1) by omega]
  exact k
theorem Ll.held {w W : World} {A T : Option Addr} {n c p q lb lo : Nat} {d : Int} {x : List UInt8} {r : List (List UInt8)} {ts : List Nat} {H : ByteArray} (e : (⟨x.toArray⟩ : ByteArray) = H) (h : Ll w A n c d (some ⟨lb, lo, none⟩) p (x :: r) T q ts W) :
    (W.cell? ⟨w.heap.size, 0, none⟩ = some (.slice A n c) ∧ W.cell? ⟨w.heap.size, 1, none⟩ = some (.int .i64 d) ∧ W.cell? ⟨lb, lo, none⟩ = some (.string H)) ∧ Ll w A n c d (some ⟨lb, lo, none⟩) p (x :: r) T q ts W := by
  obtain ⟨b, off, e2, hc⟩ := sl_first h.l
  injection e2 with e2
  injection e2 with e3 e4 _
  subst e3 e4
  rw [e] at hc
  exact ⟨⟨h.t.cells.1, h.t.cells.2, hc⟩, h⟩
theorem rows_len (code : List UInt32) : ∀ l : List Nat, (l.flatMap (rowP code)).length = l.length + (l.filter (isT code)).length
  | [] => rfl
  | i :: l => by
    have ih := rows_len code l
    rw [List.flatMap_cons, List.length_append, ih, List.filter_cons]
    unfold rowP
    cases isT code i <;> simp <;> omega
theorem rowsF_len (code : List UInt32) (i : Nat) : (rowsF code i).length = (code.length - i) + (targF code i).length := by
  unfold rowsF targF
  rw [rows_len, List.length_range']
theorem Ll.step {w W : World} {A T : Option Addr} {n c p q lb lo cL : Nat} {d : Int} {x : List UInt8} {r : List (List UInt8)} {ts : List Nat} (h : Ll w A n c d (some ⟨lb, lo, none⟩) p (x :: r) T q ts W) (hc : p ≤ cL) : Ll w A n c d (some ⟨lb, lo + 1, none⟩) r.length r T q ts W :=
  ⟨h.t, by have k := sl_rest h.l hc; rwa [List.length_map] at k, h.s⟩
theorem Ll.next {w W : World} {A T : Option Addr} {n c p q lb lo cL : Nat} {d : Int} {x : List UInt8} {r : List (List UInt8)} {ts : List Nat} (h : Ll w A n c d (some ⟨lb, lo, none⟩) p (x :: r) T q ts W) (hp : p = r.length + 1) (hc : p ≤ cL) : (cL = 1 → ∀ L', Ll w A n c d L' r.length r T q ts W) ∧ Ll w A n c d (some ⟨lb, lo + 1, none⟩) r.length r T q ts W :=
  ⟨fun h1 L' => by
    obtain rfl : r = [] := List.eq_nil_of_length_eq_zero (by omega)
    exact ⟨h.t, ⟨rfl, fun h => absurd h (by simp)⟩, h.s⟩, h.step hc⟩
theorem Ll.stepT {w W : World} {A L : Option Addr} {n c p q tb to cT : Nat} {d : Int} {x : Nat} {ls : List (List UInt8)} {ts : List Nat} (h : Ll w A n c d L p ls (some ⟨tb, to, none⟩) q (x :: ts) W) (hc : q ≤ cT) : Ll w A n c d L p ls (some ⟨tb, to + 1, none⟩) ts.length ts W :=
  ⟨h.t, h.l, by have k := sl_rest h.s hc; rwa [List.length_map] at k⟩
theorem Ll.nextT {w W : World} {A L : Option Addr} {n c p tb to cT : Nat} {d : Int} {x : Nat} {ls : List (List UInt8)} {ts : List Nat} (h : Ll w A n c d L p ls (some ⟨tb, to, none⟩) (x :: ts).length (x :: ts) W) (hc : (x :: ts).length ≤ cT) : (cT = 1 → ∀ T', Ll w A n c d L p ls T' ts.length ts W) ∧ Ll w A n c d L p ls (some ⟨tb, to + 1, none⟩) ts.length ts W :=
  ⟨fun h1 T' => by
    obtain rfl : ts = [] := by
      rw [List.length_cons] at hc
      exact List.eq_nil_of_length_eq_zero (by omega)
    exact ⟨h.t, h.l, ⟨rfl, fun h => absurd h (by simp)⟩⟩, h.stepT hc⟩
theorem Ll.firstT {w W : World} {A L T : Option Addr} {n c p q : Nat} {d : Int} {x : Nat} {ls : List (List UInt8)} {ts : List Nat} (h : Ll w A n c d L p ls T q (x :: ts) W) : ∃ tb to, T = some ⟨tb, to, none⟩ ∧ W.cell? ⟨tb, to, none⟩ = some (.int .i64 (x : Int)) := by
  have hn := h.s.1
  simp only [List.length_map, List.length_cons] at hn
  obtain ⟨b, off, e, _, hc⟩ := h.s.2 (by omega)
  exact ⟨b, off, e, hc 0 _ rfl⟩
theorem Ll.nextT' {w W : World} {A L : Option Addr} {n c p q tb to cT : Nat} {d : Int} {x : Nat} {ls : List (List UInt8)} {ts : List Nat} (h : Ll w A n c d L p ls (some ⟨tb, to, none⟩) q (x :: ts) W) (hc : q ≤ cT) : (cT = 1 → ∀ T', Ll w A n c d L p ls T' ts.length ts W) ∧ Ll w A n c d L p ls (some ⟨tb, to + 1, none⟩) ts.length ts W :=
  ⟨fun h1 T' => by
    have hq := h.s.1
    simp only [List.length_map, List.length_cons] at hq
    obtain rfl : ts = [] := List.eq_nil_of_length_eq_zero (by omega)
    exact ⟨h.t, h.l, ⟨rfl, fun h => absurd h (by simp)⟩⟩, h.stepT hc⟩
theorem Ll.drewN {w W : World} {A L T : Option Addr} {n c p q : Nat} {d : Int} {ls : List (List UInt8)} {ts : List Nat} (h : Ll w A n c d L p ls T q ts W) (k : Nat) : Ll w A n c d L p ls T q ts (W.drewN k) := ⟨⟨h.t.m.drewN k, below_drewN h.t.bel k⟩, h.l, h.s⟩
theorem item_ext {x : UInt32} {n : Nat} {H : ByteArray} (h : H.data.toList = [32, 32] ++ itemL x n) : 3 ≤ H.size ∧ (H.extract 0 2).data.toList = [32, 32] ∧ ∀ h2 : 2 < H.size, (H[2]'h2).toNat ≠ 32 := by
  obtain ⟨c, r, e, hc⟩ := item_first x n
  rw [e] at h
  have hz : H.data.toList.length = H.size := rfl
  rw [h] at hz
  simp only [List.length_append, List.length_cons, List.length_nil] at hz
  refine ⟨by omega, ?_, fun h2 => ?_⟩
  · have k : (H.extract 0 2).data.toList = (H.data.toList.drop 0).take 2 := by rw [ByteArray.data_extract, Array.toList_extract]
    rw [k, h]; rfl
  · have k : H.data.toList[2]'(by rw [h]; simp) = c := by simp [h]
    have k2 : H[2]'h2 = H.data.toList[2]'(by rw [h]; simp) := rfl
    rw [k2, k]
    exact hc

set_option maxRecDepth 100000 in
set_option maxHeartbeats 4000000 in
theorem llines_walk (code : List UInt32) (A : Option Addr) (c : Nat) (d : Int) (w : World) (hA : Sl w w.heap.size A code.length (code.map wv)) (hp : Pow10 w) :
    Calls Tryd.prog 6 #[.agg #[.slice A code.length c, .int .i64 d]] w fun e w' => e = .returned (.bool true) ∧ Below w.heap.size w w' := by
  have KA := Lib.hid ls_awake
  have T0 := Tg.new w A code.length c d
  have hp0 := hp.below T0.bel
  have KX := Lib.hid (fun W => ref_Right A code.length c d W)
  by_cases hbig : 400 < code.length
  · have hI : (400 : Int) < code.length := by omega
    clear hbig
    go_enter Tryd.func6, Tryd.ntmps6
    go_wp2_with fail
    refine (KA.out _ hp0).mono ?_
    rintro e w1 ⟨rfl, b1⟩
    have T1 := T0.below b1
    have t0 := T1.cells.1
    have t1 := T1.cells.2
    go_wp2_with fail
    go_returns
    exact ⟨rfl, T1.bel⟩
  have hI : ¬ (400 : Int) < code.length := by omega
  cases hr : rightB code.length d with
  | false =>
    rw [hr] at KX
    go_enter Tryd.func6, Tryd.ntmps6
    go_wp2_with fail
    refine (KA.out _ hp0).mono ?_
    rintro e w1 ⟨rfl, b1⟩
    have T1 := T0.below b1
    have t0 := T1.cells.1
    have t1 := T1.cells.2
    go_wp2_with fail
    refine (KX.out _).mono ?_
    rintro e w2 ⟨rfl, b2⟩
    have T2 := T1.below b2
    go_wp2_with fail
    go_returns
    exact ⟨rfl, T2.bel⟩
  | true =>
  rw [hr] at KX
  have hr2 := of_decide_eq_true hr
  obtain ⟨dn, rfl⟩ : ∃ dn : Nat, d = (dn : Int) := ⟨d.toNat, by omega⟩
  have hdn : dn < 4294967296 := by omega
  have hn : code.length ≤ 20000 := by omega
  have K1 := Lib.hid (fun (W : World) (h : Below w.heap.size w W) => listing_Text A code c dn W ((hA.below h).more h.size) hr (hp.below h))
  have K2 := Lib.hid (fun (W : World) (h : Below w.heap.size w W) => listing_TargetsC A code c (dn : Int) W ((hA.below h).more h.size) hn)
  have htl := text_len code dn hdn code.length (by omega)
  have K3 : Hid (∀ (t : ByteArray) (W : World), t.data.toList = textT code dn → Calls Tryd.prog 25 #[.string t] W fun e w' => (∃ L c, e = .returned (.slice L (linesP code dn code.length).length c) ∧ Sl w' w'.heap.size L (linesP code dn code.length).length ((linesP code dn code.length).map sv) ∧ (linesP code dn code.length).length ≤ c) ∧ Below W.heap.size W w') := Lib.hid fun t W ht => by
    have hs : t.size ≤ 1000000 := by
      have e : t.data.toList.length = t.size := rfl
      rw [ht] at e
      unfold textT at e
      omega
    have q := ref11_Lines t W hs
    rw [ht] at q
    unfold textT at q
    rw [lines_text] at q
    exact q
  have e1 : (UInt32.ofNat dn).toNat = dn := by rw [UInt32.toNat_ofNat']; omega
  have k4 := fun W h => word_Text (UInt32.ofNat dn) W h
  rw [e1] at k4
  have hw1 : IntKind.u32.wrap (dn : Int) = dn := by rw [IntKind.wrap_u32']; omega
  have hl1 := dec_length32 dn hdn
  obtain ⟨D, hD⟩ : ∃ D : ByteArray, (⟨(Lib.decDigits dn).toArray⟩ : ByteArray) = D := ⟨_, rfl⟩
  rw [hD] at k4
  have hDz : D.size ≤ 10 := by rw [← hD]; exact hl1
  have hH0 : (⟨#[46, 100, 97, 116, 97, 32]⟩ ++ D : ByteArray) = ⟨(hdrL dn).toArray⟩ := by
    apply ba_eq
    rw [ba_app, ← hD]
    rfl
  have K4 := Lib.hid k4
  obtain ⟨H0, hH⟩ : ∃ H0 : ByteArray, (⟨(hdrL dn).toArray⟩ : ByteArray) = H0 := ⟨_, rfl⟩
  rw [hH] at hH0
  have q0 : ¬ 9223372036854775807 < (⟨#[46, 100, 97, 116, 97, 32]⟩ : ByteArray).size + D.size := by show ¬ 9223372036854775807 < 6 + D.size; omega
  have hrl : (rowsF code 0).length = code.length + (targL code).length := by
    rw [rowsF_len, targF_zero, Nat.sub_zero]
  clear hr hr2 e1 k4 hl1 hD htl
  go_enter Tryd.func6, Tryd.ntmps6
  go_wp2_with fail
  refine (KA.out _ hp0).mono ?_
  rintro e w1 ⟨rfl, b1⟩
  have T1 := T0.below b1
  have t0 := T1.cells.1
  have t1 := T1.cells.2
  go_wp2_with fail
  refine (KX.out _).mono ?_
  rintro e w2 ⟨rfl, b2⟩
  have T2 := T1.below b2
  have t0 := T2.cells.1
  have t1 := T2.cells.2
  clear b1 b2 T0 T1 hp0
  go_wp2_with fail
  refine (K1.out _ T2.bel).mono ?_
  rintro e w3 ⟨⟨s, rfl, hs⟩, b3⟩
  have T3 := T2.below b3
  have t0 := T3.cells.1
  have t1 := T3.cells.2
  clear b3 T2
  go_wp2_with fail
  refine (K2.out _ T3.bel).mono ?_
  rintro e w4 ⟨⟨B1, k1, rfl, S1, hk1⟩, b4⟩
  have T4 := T3.below b4
  go_wp2_with fail
  refine (K3.out s _ hs.out).mono ?_
  rintro e w5 ⟨⟨L, cL, rfl, SL, hcL⟩, b5⟩
  have G5 : Ll w A code.length c (dn : Int) L (linesP code dn code.length).length (linesP code dn code.length) B1 (targL code).length (targL code) w5 := ⟨T4.below b5, SL, (S1.below b5).more b5.size⟩
  clear t0 t1 T3 T4 b4 b5 SL S1 K1 K2 K3
  rw [rowsF_zero] at G5 hcL ⊢
  obtain ⟨lb, lo, rfl, hc0⟩ := sl_first G5.l
  rw [hH] at hc0
  have t0 := G5.t.cells.1
  have t1 := G5.t.cells.2
  have HG := Lib.hid G5
  have hlI : ((hdrL dn :: rowsF code 0).length : Int) = 1 + code.length + (targL code).length := by rw [List.length_cons]; omega
  clear G5
  have hq : (((code.length : Int) + (targL code).length + 1) != (1 + (code.length : Int) + (targL code).length)) = false := by rw [bne_eq_false_iff_eq]; omega
  have htI : ((targL code).length : Int) ≤ 400 := by have := targL_len code; omega
  have hw2 : IntKind.i64.wrap (1 + (code.length : Int)) = 1 + (code.length : Int) := IntWalk.i64_in _ (by omega)
  have hw3 : IntKind.i64.wrap (1 + (code.length : Int) + ((targL code).length : Int)) = 1 + (code.length : Int) + ((targL code).length : Int) := IntWalk.i64_in _ (by omega)
  have hz0 : (0 : Int) < (code.length : Int) + ((targL code).length : Int) + 1 := by omega
  have hz1 : 0 < code.length + (targL code).length + 1 := Nat.succ_pos _
  go_wp2_with fail
  have q0 : ¬ 9223372036854775807 < (⟨#[46, 100, 97, 116, 97, 32]⟩ : ByteArray).size + D.size := by show ¬ 9223372036854775807 < 6 + D.size; omega
  have q01 : ¬ 9223372036854775807 < 6 + D.size := by omega
  go_region_held3 (fun W => (W.cell? ⟨w.heap.size, 0, none⟩ = some (.slice A code.length c) ∧ W.cell? ⟨w.heap.size, 1, none⟩ = some (.int .i64 (dn : Int)) ∧ W.cell? ⟨lb, lo, none⟩ = some (.string H0)) ∧ Ll w A code.length c (dn : Int) (some ⟨lb, lo, none⟩) (hdrL dn :: rowsF code 0).length (hdrL dn :: rowsF code 0) B1 (targL code).length (targL code) W) ((refine Ll.held hH ?_; repeat (first | assumption | (exact HG.out) | (refine Ll.drew ?_))))
    ((first
      | (go_at_call 26; (with_reducible refine (K4.out _ ?_).mono ?_); (exact hp.below HG.out.drew.t.bel); rintro e w6 ⟨rfl, hb6⟩; have G6 := HG.out.drew.below rfl hb6)))
  have hcI : code.length + (targL code).length + 1 ≤ cL := by rw [List.length_cons] at hcL; omega
  have G7 := Lib.hid (G6.next rfl hcL)
  have KI := Lib.hid (fun (i : Nat) (hi : i < 4294967296) (W : World) (h : Pow10 W) => by
    have q := word_Text (UInt32.ofNat i) W h
    rw [show (UInt32.ofNat i).toNat = i by rw [UInt32.toNat_ofNat']; omega] at q
    exact q)
  clear hq hlI hw2 hw3 hz0 hz1 q0 q01 hH0 hH hc0 HG G6 hb6 K4 hw1 hDz t0 t1
  rw [targF_zero] at hrl hk1 G7 hcI ⊢
  rcases (show cL = 1 ∨ ¬ cL = 1 by omega) with h1c | h1c
  all_goals
    go_wp2_with fail
    go_loopw [5, 6, 7] (fun tv' lv iv wr => ∃ (i cL cT : Nat) (L T : Option Addr), i ≤ code.length ∧ iv = .int .i64 i ∧ lv = .slice L (rowsF code i).length cL ∧ (rowsF code i).length ≤ cL ∧ tv' = .slice T (targF code i).length cT ∧ (targF code i).length ≤ cT ∧ Ll w A code.length c (dn : Int) L (rowsF code i).length (rowsF code i) T (targF code i).length (targF code i) wr) (fun _ _ iv _ => code.length - (intOf iv).toNat)
    case atStart => exact ⟨0, _, k1, _, B1, Nat.zero_le _, rfl, by rw [hrl], by omega, rfl, hk1, by first | exact G7.out.2 | exact G7.out.1 h1c _⟩
    case round =>
      clear G7 hk1 hcI h1c hrl hcL
      obtain ⟨i, cL, cT, L, T, hi, rfl, rfl, hcL, rfl, hcT, hG⟩ := hrel
      have t0 := hG.t.cells.1
      by_cases hlt : i < code.length
      · have hiI : (i : Int) < code.length := by omega
        have hi0 : (0 : Int) ≤ i := by omega
        have hnI : (code.length : Int) ≤ 20000 := by omega
        have hR := rowsF_step code i hlt
        have hF := targF_step code i hlt
        have hge := targF_ge code (i + 1)
        have hrow : rowP code i = (if isT code i = true then [lblL i] else []) ++ [[32, 32] ++ itemL code[i] code.length] := by
          unfold rowP
          rw [List.getD_eq_getElem?_getD, List.getElem?_eq_getElem hlt]
          rfl
        rw [hrow] at hR
        obtain ⟨x, hx⟩ : ∃ x, code[i] = x := ⟨_, rfl⟩
        rw [hx] at hR
        clear hx hrow
        obtain ⟨H, hH⟩ : ∃ H : ByteArray, (⟨([32, 32] ++ itemL x code.length).toArray⟩ : ByteArray) = H := ⟨_, rfl⟩
        have hHd : H.data.toList = [32, 32] ++ itemL x code.length := by rw [← hH]
        obtain ⟨hz3, hx2, hx3⟩ := item_ext hHd
        have hzI : (3 : Int) ≤ H.size := by omega
        have hzI2 : (2 : Int) < H.size := by omega
        have hz2 : 2 < H.size := by omega
        have hq2 : (((H[2]'hz2).toNat : Int) == 32) = false := by have := hx3 hz2; rw [beq_eq_false_iff_ne]; omega
        have hx2b : H.extract 0 2 = ⟨#[32, 32]⟩ := ba_eq hx2
        clear hx3
        cases ht : isT code i with
        | false =>
          have hR' : rowsF code i = ([32, 32] ++ itemL x code.length) :: rowsF code (i + 1) := by rw [hR, ht]; rfl
          have hF' : targF code i = targF code (i + 1) := by rw [hF, ht]; rfl
          have hm : (rowsF code i).length = (rowsF code (i + 1)).length + 1 := by rw [hR']; rfl
          rw [hm] at hG hcL ⊢
          rw [hR'] at hG
          rw [hF'] at hG hcT ⊢
          clear hR hF hR' hF' hm
          obtain ⟨lb, lo, rfl, hc0⟩ := sl_first hG.l
          rw [hH] at hc0
          clear hHd hH
          have hN := Lib.hid (hG.next rfl hcL)
          have hbel := hG.t.bel
          clear hG
          obtain ⟨m, hmE⟩ : ∃ m, (rowsF code (i + 1)).length = m := ⟨_, rfl⟩
          rw [hmE] at hN hcL ⊢
          have hm0 : ¬ (m : Int) + 1 = 0 := by omega
          have hm0b : (((m : Int) + 1) == 0) = false := by rw [beq_eq_false_iff_ne]; omega
          have hmn : 0 < m + 1 := Nat.succ_pos _
          have hmI : (0 : Int) < (m : Int) + 1 := by omega
          rcases (show cL = 1 ∨ ¬ cL = 1 by omega) with h1c | h1c
          all_goals
            cases htf : targF code (i + 1) with
            | nil =>
              rw [htf] at hN hcT hge
              go_wp2_with fail
              refine ⟨⟨i + 1, _, cT, _, _, by omega, rfl, by rw [hmE], by omega, by rw [htf]; rfl, by rw [htf]; exact hcT, by rw [hmE, htf]; first | exact hN.out.2 | exact hN.out.1 h1c _⟩, ?_⟩
              show code.length - ((i : Int) + 1).toNat < code.length - (i : Int).toNat
              omega
            | cons t r =>
              rw [htf] at hN hcT hge
              have hti : ((t : Int) == (i : Int)) = false := by
                have := (hge t (List.mem_cons_self ..)).1
                rw [beq_eq_false_iff_ne]; omega
              clear hge
              obtain ⟨tb, to, rfl, hct⟩ := hN.out.2.firstT
              have hr0 : (0 : Int) < (((t :: r).length : Nat) : Int) := by rw [List.length_cons]; omega
              have hr1 : 0 < (t :: r).length := by rw [List.length_cons]; omega
              go_wp2_with fail
              refine ⟨⟨i + 1, _, cT, _, _, by omega, rfl, by rw [hmE], by omega, by rw [htf]; rfl, by rw [htf]; exact hcT, by rw [hmE, htf]; first | exact hN.out.2 | exact hN.out.1 h1c _⟩, ?_⟩
              show code.length - ((i : Int) + 1).toNat < code.length - (i : Int).toNat
              omega
        | true =>
          have hR' : rowsF code i = lblL i :: ([32, 32] ++ itemL x code.length) :: rowsF code (i + 1) := by rw [hR, ht]; rfl
          have hF' : targF code i = i :: targF code (i + 1) := by rw [hF, ht]; rfl
          have hm : (rowsF code i).length = (rowsF code (i + 1)).length + 1 + 1 := by rw [hR']; rfl
          have hmT : (targF code i).length = (targF code (i + 1)).length + 1 := by rw [hF']; rfl
          rw [hm, hmT] at hG
          rw [hm] at hcL ⊢
          rw [hmT] at hcT ⊢
          rw [hR', hF'] at hG
          clear hR hF hR' hF' hm hmT hge
          obtain ⟨lb, lo, rfl, hc0⟩ := sl_first hG.l
          obtain ⟨tb, to, rfl, hct⟩ := hG.firstT
          obtain ⟨H1, hH1⟩ : ∃ H1 : ByteArray, (⟨(lblL i).toArray⟩ : ByteArray) = H1 := ⟨_, rfl⟩
          rw [hH1] at hc0
          obtain ⟨E, hE⟩ : ∃ E : ByteArray, (⟨(Lib.decDigits i).toArray⟩ : ByteArray) = E := ⟨_, rfl⟩
          have K9 := Lib.hid (KI.out i (by omega))
          rw [hE] at K9
          have hEz : E.size ≤ 10 := by rw [← hE]; exact dec_length32 i (by omega)
          have hcat : (⟨#[76]⟩ ++ E ++ ⟨#[58]⟩ : ByteArray) = H1 := by
            rw [← hH1]
            apply ba_eq
            rw [ba_app, ba_app, ← hE]
            rfl
          have hwi : IntKind.u32.wrap (i : Int) = i := by rw [IntKind.wrap_u32']; omega
          have hN2 := Lib.hid ((hG.step hcL).nextT' hcT)
          have hG9 := Lib.hid hG
          have hbel := hG.t.bel
          have h1c : ¬ cL = 1 := by omega
          obtain ⟨m, hmE⟩ : ∃ m, (rowsF code (i + 1)).length = m := ⟨_, rfl⟩
          obtain ⟨mT, hmTE⟩ : ∃ m, (targF code (i + 1)).length = m := ⟨_, rfl⟩
          rw [hmE, hmTE] at hG9
          rw [hmE] at hcL ⊢
          rw [hmTE] at hcT ⊢
          have hm0 : ¬ (m : Int) + 1 = 0 := by omega
          have hm0b : (((m : Int) + 1) == 0) = false := by rw [beq_eq_false_iff_ne]; omega
          have hmn : 0 < m + 1 := Nat.succ_pos _
          have hmI : (0 : Int) < (m : Int) + 1 := by omega
          have hmI2 : (0 : Int) < (m : Int) + 1 + 1 := by omega
          have hmn2 : 0 < m + 1 + 1 := Nat.succ_pos _
          have hmTn : 0 < mT + 1 := Nat.succ_pos _
          have hmTI : (0 : Int) < (mT : Int) + 1 := by omega
          clear hG
          have q1 : ¬ 9223372036854775807 < (⟨#[76]⟩ : ByteArray).size + E.size := by show ¬ 9223372036854775807 < 1 + E.size; omega
          have q2 : ¬ 9223372036854775807 < (⟨#[76]⟩ ++ E : ByteArray).size + (⟨#[58]⟩ : ByteArray).size := by rw [ByteArray.size_append]; show ¬ 9223372036854775807 < 1 + E.size + 1; omega
          have q3 : ¬ 9223372036854775807 < 1 + E.size := by omega
          have q4 : ¬ 9223372036854775807 < 1 + E.size + 1 := by omega
          have q5 : ¬ 9223372036854775807 < (⟨#[76]⟩ ++ E : ByteArray).size + 1 := q2
          go_wp2_with fail
          go_region_held3 (fun W => (W.cell? ⟨w.heap.size, 0, none⟩ = some (.slice A code.length c) ∧ W.cell? ⟨w.heap.size, 1, none⟩ = some (.int .i64 (dn : Int)) ∧ W.cell? ⟨lb, lo, none⟩ = some (.string H1)) ∧ Ll w A code.length c (dn : Int) (some ⟨lb, lo, none⟩) (m + 1 + 1) (lblL i :: ([32, 32] ++ itemL x code.length) :: rowsF code (i + 1)) (some ⟨tb, to, none⟩) (mT + 1) (i :: targF code (i + 1)) W) ((refine Ll.held hH1 ?_; repeat (first | assumption | (exact hG9.out) | (refine Ll.drew ?_))))
            ((first
              | (go_at_call 26; (with_reducible refine (K9.out _ ?_).mono ?_); (exact hp.below hG9.out.drew.t.bel); rintro e w7 ⟨rfl, hb7⟩; have G7 := hG9.out.drew.below rfl hb7)))
          have hN1 := Lib.hid ((G7.step (cL := cL) (by omega)).nextT' (cT := cT) (by omega))
          obtain ⟨lb2, lo2, e2, hc2⟩ := sl_first (G7.step (cL := cL) (by omega)).l
          injection e2 with e2
          injection e2 with e3 e4 _
          subst e3 e4
          rw [hH] at hc2
          have tz := G7.t.cells.1
          clear G7 hb7 hG9 hN2 q1 q2 q3 q4 q5 hcat hwi hEz hE hH1 hc0 t0 hct K9
          rcases (show cT = 1 ∨ ¬ cT = 1 by omega) with h2c | h2c
          all_goals
            rcases (show cL = 2 ∨ ¬ cL = 2 by omega) with h3c | h3c
            all_goals
              have hcc : (([32, 32] ++ itemL x code.length) :: rowsF code (i + 1)).length ≤ cL - 1 := by rw [List.length_cons, hmE]; omega
              have h4c : (cL - 1 = 1) = (cL = 2) := by apply propext; omega
              go_wp2_with fail
              refine ⟨⟨i + 1, _, _, _, _, by omega, rfl, by rw [hmE], by omega, by rw [hmTE], by omega, by
                first
                  | exact (hN1.out.2.next rfl hcc).2
                  | exact (hN1.out.2.next rfl hcc).1 (by omega) _
                  | exact ((hN1.out.1 h2c _).next rfl hcc).2
                  | exact ((hN1.out.1 h2c _).next rfl hcc).1 (by omega) _⟩, ?_⟩
              show code.length - ((i : Int) + 1).toNat < code.length - (i : Int).toNat
              omega
      · obtain rfl : i = code.length := by omega
        have hbel := hG.t.bel
        rw [targF_end] at *
        clear hG hcL hcT
        go_wp2_with fail
        go_returns
        exact ⟨rfl, hbel⟩
end Go.Proofs.YtneebohaanjejaaDoor
