/- Layer 11: the whole text, walked: the document's. -/
import Derived.Test.YtneebohaanjejaaDoorLr
import Derived.Test.YtneebohaanjejaaDoorLv
import Derived.Test.YtneebohaanjejaaDoorGrx
namespace Go.Proofs.YtneebohaanjejaaDoor
open Go.RowKit

/-- A slice that lies beside the row g. -/
def Sg (W : World) (g : Nat) (L : Option Addr) (n : Nat) (xs : List Value) : Prop := xs.length = n ∧ (0 < n → ∃ b off, L = some ⟨b, off, none⟩ ∧ b < W.heap.size ∧ b ≠ g ∧ ∀ i u, xs[i]? = some u → W.cell? ⟨b, off + i, none⟩ = some u)
theorem cell_heap {W W' : World} {b : Nat} (h : W'.heap[b]? = W.heap[b]?) (o : Nat) : W'.cell? ⟨b, o, none⟩ = W.cell? ⟨b, o, none⟩ := by
  unfold World.cell?
  rw [h]
theorem Sg.below {W W' : World} {g : Nat} {L : Option Addr} {n : Nat} {xs : List Value} (h : Sg W g L n xs) {B : Nat} (hB : B = W.heap.size) (hb : Below B W W') : Sg W' g L n xs :=
  ⟨h.1, fun hn => by
    subst hB
    obtain ⟨b, off, e, hlt, hne, hc⟩ := h.2 hn
    exact ⟨b, off, e, Nat.lt_of_lt_of_le hlt hb.size, hne, fun i u hu => (hb.cell (p := ⟨b, off + i, none⟩) hlt).trans (hc i u hu)⟩⟩
theorem Sg.drew {W : World} {g : Nat} {L : Option Addr} {n : Nat} {xs : List Value} (h : Sg W g L n xs) : Sg W.drew g L n xs := h
theorem Sg.app {W W' : World} {g g' : Nat} {L : Option Addr} {n : Nat} {xs : List Value} (h : Sg W g L n xs) (hg : g' = g ∨ W.heap.size ≤ g') (hk : ∀ k, k < W.heap.size → k ≠ g → W'.heap[k]? = W.heap[k]?) (hs : W.heap.size ≤ W'.heap.size) : Sg W' g' L n xs :=
  ⟨h.1, fun hn => by
    obtain ⟨b, off, e, hlt, hne, hc⟩ := h.2 hn
    refine ⟨b, off, e, by omega, by omega, fun i u hu => (cell_heap (hk b hlt hne) _).trans (hc i u hu)⟩⟩
/-- The image's box and the bytes so far. -/
structure Zt (w : World) (A : Option Addr) (n c : Nat) (d : Int) (g : Nat) (v : Value) (l : List UInt8) (W : World) : Prop where
  t : Tg w A n c d W
  r : Gx W (w.heap.size + 1) 5 g v l.length (l.map bv)
section
variable {w W W' : World} {A : Option Addr} {n c g g' : Nat} {d : Int} {v v' : Value} {l l' : List UInt8}
theorem Zt.below (h : Zt w A n c d g v l W) {B : Nat} (hB : B = W.heap.size) (hb : Below B W W') : Zt w A n c d g v l W' := by
  subst hB
  exact ⟨h.t.below hb, h.r.below rfl hb⟩
theorem Zt.drew (h : Zt w A n c d g v l W) : Zt w A n c d g v l W.drew := h.below rfl (Below.refl _ W).drew
theorem Zt.app (h : Zt w A n c d g v l W) (hb : Below (w.heap.size + 1) W W') (hr : Gx W' (w.heap.size + 1) 5 g' v' l'.length (l'.map bv)) : Zt w A n c d g' v' l' W' :=
  ⟨⟨h.t.m.below hb (Nat.lt_succ_self _), h.t.bel.trans (hb.mono (Nat.le_succ _))⟩, hr⟩
end
theorem bytes_below (W : World) (e : TypeId) (S : ByteArray) : Below W.heap.size W (Lib.bytesWorld W e S) := Go.Joins.below_bytesWorld W.heap.size W e S (Nat.le_refl _)
theorem bytes_cells (W : World) (e : TypeId) (S : ByteArray) : ∀ j u, (S.data.toList.map bv)[j]? = some u → (Lib.bytesWorld W e S).cell? ((⟨W.heap.size, 0, none⟩ : Addr).add j) = some u := by
  obtain ⟨hl, cap, cur, fz, hv, hB, hg, hn, hc, ht, hf⟩ := Gx.bytes W W.heap.size e S (Nat.le_refl _)
  exact row_cell hg ht hl

theorem lineR_len (x : UInt32) (n : Nat) : 0 < (lineR x n).length ∧ (lineR x n).length ≤ 60 := by
  have h := item_len x n
  unfold lineR
  simp only [List.length_append, List.length_cons, List.length_nil]
  omega
theorem ref11_Text_bad (A : Option Addr) (n c : Nat) (d : Int) (w : World) (hr : rightB n d = false) :
    Calls Tryd.prog 23 #[.agg #[.slice A n c, .int .i64 d]] w fun e w' => e = .returned (.tuple #[.string ⟨#[]⟩, .int .i64 1]) ∧ Below w.heap.size w w' := by
  have T0 := Tg.new w A n c d
  have t0 := T0.cells.1
  have t1 := T0.cells.2
  have KR : Hid (∀ W : World, Calls Tryd.prog 24 #[.agg #[.slice A n c, .int .i64 d]] W fun e w' => e = .returned (.bool false) ∧ Below W.heap.size W w') := Lib.hid fun W => by
    have h := ref_Right A n c d W
    rw [hr] at h
    exact h
  go_enter Tryd.func23, Tryd.ntmps23
  go_wp2_with fail
  refine (KR.out _).mono ?_
  rintro e w1 ⟨rfl, hb1⟩
  have b1 := (T0.below hb1).bel
  go_wp2_with fail
  go_returns
  exact ⟨rfl, b1⟩

set_option maxRecDepth 100000 in
set_option maxHeartbeats 4000000 in
theorem ref11_Text (A : Option Addr) (code : List UInt32) (c : Nat) (d : Nat) (w : World) (hA : Sl w w.heap.size A code.length (code.map wv)) (hr : rightB code.length (d : Int) = true) :
    Calls Tryd.prog 23 #[.agg #[.slice A code.length c, .int .i64 (d : Int)]] w fun e w' => (∃ s, e = .returned (.tuple #[.string s, .int .i64 0]) ∧ Hid (s.data.toList = textT code d)) ∧ Below w.heap.size w w' := by
  have hr2 := of_decide_eq_true hr
  have hn : code.length ≤ 20000 := by omega
  have hd : d < 4294967296 := by omega
  have T0 := Tg.new w A code.length c (d : Int)
  have t0 := T0.cells.1
  have t1 := T0.cells.2
  have KR : Hid (∀ W : World, Calls Tryd.prog 24 #[.agg #[.slice A code.length c, .int .i64 (d : Int)]] W fun e w' => e = .returned (.bool true) ∧ Below W.heap.size W w') := Lib.hid fun W => by
    have h := ref_Right A code.length c (d : Int) W
    rw [hr] at h
    exact h
  have KT : Hid (∀ W : World, Below w.heap.size w W → Calls Tryd.prog 21 #[.agg #[.slice A code.length c, .int .i64 (d : Int)]] W fun e w' => (∃ B c', e = .returned (.slice B (targL code).length c') ∧ Sl w' w'.heap.size B (targL code).length ((targL code).map tv) ∧ (targL code).length ≤ c' ∧ ∀ b off, B = some ⟨b, off, none⟩ → W.heap.size ≤ b) ∧ Below W.heap.size W w') :=
    Lib.hid fun W h => ref11_Targets A code c (d : Int) W ((hA.below h).more h.size) hn
  have KD := Lib.hid (fun W => ref11_number d hd W)
  obtain ⟨D, hD⟩ : ∃ D : ByteArray, (⟨(Lib.decDigits d).toArray⟩ : ByteArray) = D := ⟨_, rfl⟩
  rw [hD] at KD
  have hDd : D.data.toList = Lib.decDigits d := by rw [← hD]
  have hDz : D.size ≤ 10 := by
    have e : D.data.toList.length = D.size := rfl
    have := dec_length32 d hd
    rw [hDd] at e; omega
  obtain ⟨S, hS⟩ : ∃ S : ByteArray, ⟨#[46, 100, 97, 116, 97, 32]⟩ ++ D ++ ⟨#[10]⟩ = S := ⟨_, rfl⟩
  have HS : Hid (S.data.toList = textP code d 0) := Lib.hid (by
    rw [← hS, ba_app, ba_app, hDd]
    simp [textP, linesP, lfs, hdrL])
  have q1 : ¬ 9223372036854775807 < (⟨#[46, 100, 97, 116, 97, 32]⟩ : ByteArray).size + D.size := by show ¬ 9223372036854775807 < 6 + D.size; omega
  have q2 : ¬ 9223372036854775807 < (⟨#[46, 100, 97, 116, 97, 32]⟩ ++ D : ByteArray).size + (⟨#[10]⟩ : ByteArray).size := by
    rw [ByteArray.size_append]
    show ¬ 9223372036854775807 < 6 + D.size + 1
    omega
  have hSz : S.size ≤ 20 := by
    rw [← hS, ByteArray.size_append, ByteArray.size_append]
    show 6 + D.size + 1 ≤ 20
    omega
  have hcb := fun (W : World) (S : ByteArray) => Lib.run_convert_string_bytes (P := Tryd.prog) W 9 54 5 S Tryd.underlying9 Tryd.underlying54 Tryd.underlying5
  have HCB := Lib.hid hcb
  clear hr hr2 hD hDd hcb
  go_enter Tryd.func23, Tryd.ntmps23
  go_wp2_with fail
  refine (KR.out _).mono ?_
  rintro e w1 ⟨rfl, hb1⟩
  have T1 := T0.below hb1
  have a0 := T1.cells.1
  have a1 := T1.cells.2
  clear t0 t1 hb1 T0
  go_wp2_with fail
  refine (KD.out w1).mono ?_
  rintro e w2 ⟨rfl, hb2⟩
  have T2 := T1.below hb2
  have a0 := T2.cells.1
  have hcb := HCB.out w2 S
  have T3 := T2.below (bytes_below w2 5 S)
  have b0 := T3.cells.1
  have b1 := T3.cells.2
  have G3 := Gx.bytes w2 (w.heap.size + 1) 5 S T2.m.lt
  clear a1 T1 hb2
  go_wp2_with fail
  clear hS
  refine (KT.out _ T3.bel).mono ?_
  rintro e w4 ⟨⟨L, cL, rfl, hSl, hcL, hge⟩, hb4⟩
  have Z4 : Zt w A code.length c (d : Int) w2.heap.size (.slice (some ⟨w2.heap.size, 0, none⟩) S.size (grownCap w2 S.size 0 5)) (textP code d 0) w4 := by
    refine ⟨T3.below hb4, ?_⟩
    have k := G3.below rfl hb4
    rw [HS.out] at k
    have e : (textP code d 0).length = S.size := by rw [← HS.out]; rfl
    rw [e]
    exact k
  have S4 : Sg w4 w2.heap.size L (targF code 0).length ((targF code 0).map tv) := by
    rw [← targF_zero]
    refine ⟨hSl.1, fun hn => ?_⟩
    obtain ⟨b, off, e, hlt, hc⟩ := hSl.2 hn
    have h1 := hge b off e
    have h2 := G3.lt
    exact ⟨b, off, e, hlt, by omega, hc⟩
  have HZ4 := Lib.hid Z4
  have HS4 := Lib.hid S4
  rw [targF_zero] at hcL ⊢
  have b0 := Z4.t.cells.1
  clear Z4 S4 hSl b1 T2 T3 G3 a0 hcb hb4 hge
  go_wp2_with fail
  go_loopw [4, 5, 6] (fun v l i wr => ∃ (j g cL : Nat) (L : Option Addr), j ≤ code.length ∧ i = .int .i64 j ∧ Zt w A code.length c (d : Int) g v (textP code d j) wr ∧ l = .slice L (targF code j).length cL ∧ (targF code j).length ≤ cL ∧ Sg wr g L (targF code j).length ((targF code j).map tv)) (fun _ _ i _ => code.length - (intOf i).toNat)
  case atStart => exact ⟨0, _, _, _, Nat.zero_le _, rfl, HZ4.out, rfl, hcL, HS4.out⟩
  case round =>
    clear HZ4 HS4 b0 hcL
    obtain ⟨j, g, cL, L, hj, rfl, hZ, rfl, hcL, hSg⟩ := hrel
    have b0 := hZ.t.cells.1
    by_cases hlt : j < code.length
    · obtain ⟨bk, off, rfl, hbk, hc⟩ := (hA.below hZ.t.bel).word hlt
      have hjI : (j : Int) < code.length := by omega
      have hj0 : (0 : Int) ≤ j := by omega
      have hnI : (code.length : Int) ≤ 20000 := by omega
      have HTL := Lib.hid (text_len code d hd j (by omega))
      have HIL := Lib.hid (item_len code[j] code.length)
      have hrow : rowP code j = (if isT code j = true then [lblL j] else []) ++ [[32, 32] ++ itemL code[j] code.length] := by
        unfold rowP
        rw [List.getD_eq_getElem?_getD, List.getElem?_eq_getElem hlt]
        rfl
      have HS := Lib.hid (textP_succ code d j)
      rw [hrow] at HS
      clear hrow
      have HF := Lib.hid (targF_step code j hlt)
      obtain ⟨x, hx⟩ : ∃ x, code[j] = x := ⟨_, rfl⟩
      rw [hx] at hc HIL HS
      have KX := Lib.hid (fun (W : World) => ref11_Line x code.length W hn)
      have HX := Lib.hid hx
      clear hx
      have HZ := Lib.hid hZ
      cases ht : isT code j with
      | false =>
        rw [ht] at HS HF
        have hF : targF code j = targF code (j + 1) := HF.out
        have hge := targF_ge code (j + 1)
        rw [hF] at hSg hcL ⊢
        clear ht HF hF
        cases hl : targF code (j + 1) with
        | nil =>
          rw [hl] at hSg hcL
          have HL := Lib.hid hl
          have HSg := Lib.hid hSg
          clear hl hge hSg hZ
          go_wp2_with fail
          go_region_law ((first
            | (refine step_call rfl 55 #[.int .u32 x.toNat, .int .i64 (code.length : Int)] _ (by as_aux_lemma => kernel_rfl) (KX.out _) ?_; rintro e w5 ⟨⟨s, rfl, hs⟩, hb5⟩; have Z5 := HZ.out.drew.below rfl hb5; have S5 := HSg.out.drew.below rfl hb5; have hcb5 := HCB.out w5 s; have hsl : 0 < s.size ∧ s.size ≤ 60 := (by have k := lineR_len x code.length; rw [← hs.out] at k; exact k); refine ⟨_, rfl, ?_⟩)
            | (refine step_append_gx rfl _ _ 54 rfl (w.heap.size + 1) 5 (.int .u8 0) 1 Tryd.underlying54 info_u8 rfl g _ _ _ rfl (Z5.below rfl (bytes_below w5 5 s)).r ⟨w5.heap.size, 0, none⟩ s.size _ (s.data.toList.map bv) rfl (by rw [List.length_map]; rfl) (bytes_cells w5 _ s) (bv_oneCell _) hsl.1 (by have := HTL.out; omega) (by have := HTL.out; omega) (Z5.below rfl (bytes_below w5 5 s)).t.m.lt ?_; intro v7 w7 g7 hG7 hb7 hg7 hk7)))
          all_goals
            have Z8 : Hid (Zt w (some ⟨bk, off, none⟩) code.length c (d : Int) g7 v7 (textP code d (j + 1)) w7) := Lib.hid (by
              have e : textP code d (j + 1) = textP code d j ++ s.data.toList := by
                rw [HS.out, hs.out]
                simp [lfs, lineR]
              rw [e]
              exact (Z5.below rfl (bytes_below w5 5 s)).app hb7 (l' := textP code d j ++ s.data.toList) (by rw [List.length_append, List.map_append]; exact hG7))
            have S8 := Lib.hid ((S5.below rfl (bytes_below w5 5 s)).app hg7 hk7 hb7.size)
            have t0 := Z8.out.t.cells.1
            clear Z5 S5 hcb5 hb5 hb7 hG7 hg7 hk7
            go_wp2_with fail
            go_roundw
            case rel => exact ⟨j + 1, g7, cL, _, hlt, by simp, Z8.out, by rw [HL.out]; rfl, by rw [HL.out]; exact hcL, by rw [HL.out]; exact S8.out⟩
            case measure => simp [intOf]; omega
        | cons t r =>
          have htj := hge t (by rw [hl]; exact List.mem_cons_self)
          rw [hl] at hSg hcL
          have HL := Lib.hid hl
          obtain ⟨bt, ot, rfl, hbt, hne, hcells⟩ := hSg.2 (Nat.zero_lt_succ _)
          have ct : wr.cell? ⟨bt, ot, none⟩ = some (.int .i64 (t : Int)) := hcells 0 _ rfl
          have hq : ((t : Int) == (j : Int)) = false := by rw [beq_eq_false_iff_ne]; omega
          have HSg := Lib.hid hSg
          clear hl hge hSg hZ hcells
          go_wp2_with fail
          go_region_law ((first
            | (refine step_call rfl 55 #[.int .u32 x.toNat, .int .i64 (code.length : Int)] _ (by as_aux_lemma => kernel_rfl) (KX.out _) ?_; rintro e w5 ⟨⟨s, rfl, hs⟩, hb5⟩; have Z5 := HZ.out.drew.below rfl hb5; have S5 := HSg.out.drew.below rfl hb5; have hcb5 := HCB.out w5 s; have hsl : 0 < s.size ∧ s.size ≤ 60 := (by have k := lineR_len x code.length; rw [← hs.out] at k; exact k); refine ⟨_, rfl, ?_⟩)
            | (refine step_append_gx rfl _ _ 54 rfl (w.heap.size + 1) 5 (.int .u8 0) 1 Tryd.underlying54 info_u8 rfl g _ _ _ rfl (Z5.below rfl (bytes_below w5 5 s)).r ⟨w5.heap.size, 0, none⟩ s.size _ (s.data.toList.map bv) rfl (by rw [List.length_map]; rfl) (bytes_cells w5 _ s) (bv_oneCell _) hsl.1 (by have := HTL.out; omega) (by have := HTL.out; omega) (Z5.below rfl (bytes_below w5 5 s)).t.m.lt ?_; intro v7 w7 g7 hG7 hb7 hg7 hk7)))
          all_goals
            have Z8 : Hid (Zt w (some ⟨bk, off, none⟩) code.length c (d : Int) g7 v7 (textP code d (j + 1)) w7) := Lib.hid (by
              have e : textP code d (j + 1) = textP code d j ++ s.data.toList := by
                rw [HS.out, hs.out]
                simp [lfs, lineR]
              rw [e]
              exact (Z5.below rfl (bytes_below w5 5 s)).app hb7 (l' := textP code d j ++ s.data.toList) (by rw [List.length_append, List.map_append]; exact hG7))
            have S8 := Lib.hid ((S5.below rfl (bytes_below w5 5 s)).app hg7 hk7 hb7.size)
            have t0 := Z8.out.t.cells.1
            clear Z5 S5 hcb5 hb5 hb7 hG7 hg7 hk7
            go_wp2_with fail
            go_roundw
            case rel => exact ⟨j + 1, g7, cL, _, hlt, by simp, Z8.out, by rw [HL.out]; rfl, by rw [HL.out]; exact hcL, by rw [HL.out]; exact S8.out⟩
            case measure => simp [intOf]; omega
      | true =>
        rw [ht] at HS HF
        have hF : targF code j = j :: targF code (j + 1) := HF.out
        rw [hF] at hSg hcL ⊢
        clear ht HF hF
        obtain ⟨bt, ot, rfl, hbt, hne, hcells⟩ := hSg.2 (Nat.zero_lt_succ _)
        have ct : wr.cell? ⟨bt, ot, none⟩ = some (.int .i64 (j : Int)) := hcells 0 _ rfl
        have HR : Hid (Sg wr g (some ⟨bt, ot + 1, none⟩) (targF code (j + 1)).length ((targF code (j + 1)).map tv)) := Lib.hid ⟨by rw [List.length_map], fun _ => ⟨bt, ot + 1, rfl, hbt, hne, fun i u hu => by
          have k := hcells (i + 1) u hu
          rw [show ot + 1 + i = ot + (i + 1) by omega]
          exact k⟩⟩
        have KJ := Lib.hid (fun W => ref11_number j (by omega) W)
        obtain ⟨E, hE⟩ : ∃ E : ByteArray, (⟨(Lib.decDigits j).toArray⟩ : ByteArray) = E := ⟨_, rfl⟩
        rw [hE] at KJ
        have hEd : E.data.toList = Lib.decDigits j := by rw [← hE]
        have hEs : E.size ≤ 10 := by
          have e : E.data.toList.length = E.size := rfl
          have := dec_length32 j (by omega)
          rw [hEd] at e; omega
        obtain ⟨M, hM⟩ : ∃ M : ByteArray, ⟨#[76]⟩ ++ E ++ ⟨#[58, 10]⟩ = M := ⟨_, rfl⟩
        have HM : Hid (M.data.toList = lblL j ++ [10]) := Lib.hid (by
          rw [← hM, ba_app, ba_app, hEd]
          simp [lblL])
        have q3 : ¬ 9223372036854775807 < (⟨#[76]⟩ : ByteArray).size + E.size := by show ¬ 9223372036854775807 < 1 + E.size; omega
        have q4 : ¬ 9223372036854775807 < (⟨#[76]⟩ ++ E : ByteArray).size + (⟨#[58, 10]⟩ : ByteArray).size := by
          rw [ByteArray.size_append]
          show ¬ 9223372036854775807 < 1 + E.size + 2
          omega
        have hMs : M.size = E.size + 3 := by
          rw [← hM, ByteArray.size_append, ByteArray.size_append]
          show 1 + E.size + 2 = _
          omega
        have hMl : 0 < M.size ∧ M.size ≤ 20 := by omega
        clear hE hEd hSg hZ hcells hMs
        rcases (show cL = 1 ∨ ¬ cL = 1 by omega) with h1c | h1c
        all_goals
          go_wp2_with fail
          refine (KJ.out wr).mono ?_
          rintro e w3 ⟨rfl, hb3⟩
          have Z3 := HZ.out.below rfl hb3
          have R3 := HR.out.below rfl hb3
          have hcb3 := HCB.out w3 M
          have Z4 := Z3.below rfl (bytes_below w3 5 M)
          have R4 := R3.below rfl (bytes_below w3 5 M)
          clear b0 hc ct hb3 Z3 R3
          go_wp2_with (at_builtin; refine wpList_append_gx rfl _ _ 54 rfl (w.heap.size + 1) 5 (.int .u8 0) 1 Tryd.underlying54 info_u8 rfl g _ _ _ rfl Z4.r ⟨w3.heap.size, 0, none⟩ M.size _ (M.data.toList.map bv) rfl (by rw [List.length_map]; rfl) (bytes_cells w3 _ M) (bv_oneCell _) hMl.1 (by have := HTL.out; omega) (by have := HTL.out; omega) Z4.t.m.lt ?_; intro v6 w6 g6 hG6 hb6 hg6 hk6)
          have Z6 : Hid (Zt w (some ⟨bk, off, none⟩) code.length c (d : Int) g6 v6 (textP code d j ++ M.data.toList) w6) := Lib.hid (Z4.app hb6 (by rw [List.length_append, List.map_append]; exact hG6))
          have S6 := Lib.hid (R4.app hg6 hk6 hb6.size)
          have ZL : Hid ((textP code d j ++ M.data.toList).length = (textP code d j).length + M.size) := Lib.hid (by rw [List.length_append]; rfl)
          have b0 := Z6.out.t.cells.1
          obtain ⟨bk', off', e1, hbk', hc⟩ := (hA.below Z6.out.t.bel).word hlt
          injection e1 with e1
          injection e1 with e2 e3 _
          subst e2 e3
          rw [HX.out] at hc
          clear hG6 hb6 hg6 hk6 Z4 R4 hcb3
          go_wp2_with fail
          go_region_law ((first
            | (refine step_call rfl 55 #[.int .u32 x.toNat, .int .i64 (code.length : Int)] _ (by as_aux_lemma => kernel_rfl) (KX.out _) ?_; rintro e w5 ⟨⟨s, rfl, hs⟩, hb5⟩; have Z5 := Z6.out.drew.below rfl hb5; have S5 := S6.out.drew.below rfl hb5; have hcb5 := HCB.out w5 s; have hsl : 0 < s.size ∧ s.size ≤ 60 := (by have k := lineR_len x code.length; rw [← hs.out] at k; exact k); refine ⟨_, rfl, ?_⟩)
            | (refine step_append_gx rfl _ _ 54 rfl (w.heap.size + 1) 5 (.int .u8 0) 1 Tryd.underlying54 info_u8 rfl g6 _ _ _ rfl (Z5.below rfl (bytes_below w5 5 s)).r ⟨w5.heap.size, 0, none⟩ s.size _ (s.data.toList.map bv) rfl (by rw [List.length_map]; rfl) (bytes_cells w5 _ s) (bv_oneCell _) hsl.1 (by have := HTL.out; have := ZL.out; omega) (by have := HTL.out; have := ZL.out; omega) (Z5.below rfl (bytes_below w5 5 s)).t.m.lt ?_; intro v7 w7 g7 hG7 hb7 hg7 hk7)))
          all_goals
            have Z8 : Hid (Zt w (some ⟨bk, off, none⟩) code.length c (d : Int) g7 v7 (textP code d (j + 1)) w7) := Lib.hid (by
              have e : textP code d (j + 1) = textP code d j ++ M.data.toList ++ s.data.toList := by
                rw [HS.out, hs.out, HM.out]
                simp [lfs, lineR]
              rw [e]
              exact (Z5.below rfl (bytes_below w5 5 s)).app hb7 (l' := textP code d j ++ M.data.toList ++ s.data.toList) (by rw [List.length_append, List.map_append]; exact hG7))
            have S8 := Lib.hid ((S5.below rfl (bytes_below w5 5 s)).app hg7 hk7 hb7.size)
            have t0 := Z8.out.t.cells.1
            clear Z5 S5 hcb5 hb5 hb7 hG7 hg7 hk7
            go_wp2_with fail
            go_roundw
            case rel =>
              simp only [List.length_cons] at hcL
              exact ⟨j + 1, g7, _, _, hlt, by simp, Z8.out, rfl, by omega, by first | exact S8.out | exact ⟨S8.out.1, fun hz => absurd hz (by omega)⟩⟩
            case measure => simp [intOf]; omega
    · obtain rfl : j = code.length := by omega
      have hcv := hZ.r.of.str 54 9 Tryd.underlying54 Tryd.underlying5 Tryd.underlying9
      obtain ⟨T, hT⟩ : ∃ T : ByteArray, (⟨(textP code d code.length).toArray⟩ : ByteArray) = T := ⟨_, rfl⟩
      have HT : Hid (T.data.toList = textT code d) := Lib.hid (by rw [← hT]; rfl)
      rw [hT] at hcv
      have HZ := Lib.hid hZ
      clear hT hZ hSg
      go_wp2_with fail
      go_returns
      exact ⟨⟨T, rfl, HT⟩, HZ.out.t.bel⟩
end Go.Proofs.YtneebohaanjejaaDoor
