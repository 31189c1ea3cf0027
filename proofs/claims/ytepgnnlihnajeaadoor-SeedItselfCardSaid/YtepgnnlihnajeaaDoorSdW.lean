/- Layer 50: the seed's words, its image; walked. -/
import Derived.Test.YtepgnnlihnajeaaDoorSdL
import Derived.Test.YtepgnnlihnajeaaDoorSdK
namespace Go.Proofs.YtepgnnlihnajeaaDoor
open Go.RowKit

/-- The code's block stays. -/
structure Sw (w : World) (k : Nat) (v : Value) (W : World) : Prop where
  b : Blk W w.heap.size 44 codeA
  o : W.ownsRow (w.heap.size + 1) 40 1 v k ((seedW.take k).map wv)
  bel : Below w.heap.size w W
theorem Sw.below {w W W' : World} {k : Nat} {v : Value} (h : Sw w k v W) (hb : Below W.heap.size W W') : Sw w k v W' :=
  ⟨h.b.below hb h.b.lt, own_below h.o rfl hb, h.bel.trans (hb.mono h.bel.size)⟩

set_option maxHeartbeats 4000000 in
theorem seed_words (w : World) :
    Calls Tryd.prog 10 #[] w fun e w' => (∃ A c, e = .returned (.slice A 34 c) ∧ Sl w' w'.heap.size A 34 (seedW.map wv)) ∧ Below w.heap.size w w' := by
  have K0 := Lib.hid seed_code
  have hB := Blk.new w 44 codeA
  have hbel := (Below.refl _ w).alloc (Nat.le_refl _) (.cells codeA 44)
  go_enter Tryd.func10, Tryd.ntmps10
  go_wp2_with fail
  refine (K0.out _).mono ?_
  obtain ⟨W0, hW0⟩ : ∃ W0, w.alloc (.cells codeA 44) = W0 := ⟨_, rfl⟩
  rw [hW0] at hB hbel ⊢
  rintro e w0 ⟨rfl, rfl⟩
  clear hW0
  have hsz := hB.lt
  go_wp2_with (at_make; refine wpList_make_row _ rfl _ _ 28 rfl (w.heap.size + 1) 40 (.int .u32 0) 1 4 Tryd.underlying28 info_u32 _ _ _ 34 rfl rfl rfl (by omega) (by omega) (by omega) ?_; intro v0 w1 hown hb1 hg1 hv1)
  have h0 : Sw w 0 v0 w1 := ⟨hB.below hb1 (Nat.lt_succ_self _), hown, hbel.trans (hb1.mono (Nat.le_succ _))⟩
  clear hB hbel hsz hown hb1 hg1 hv1 K0
  go_loopw [2, 13] (fun v i wr => ∃ j : Nat, j ≤ 34 ∧ i = .int .i64 j ∧ Sw w j v wr) (fun _ i _ => 34 - (intOf i).toNat)
  case atStart => exact ⟨0, Nat.zero_le _, rfl, h0⟩
  case round =>
    clear h0
    obtain ⟨j, hj, rfl, h⟩ := hrel
    by_cases hlt : j < 34
    · obtain ⟨op, a, b, d, hq, hw⟩ := seed_word hlt
      obtain ⟨op', a', b', d', s, hq', x0, x1, x2, x3, x4, _⟩ := code_at j hlt
      rw [hq] at hq'
      injection hq' with hq'
      injection hq' with e1 hq'
      injection hq' with e2 hq'
      injection hq' with e3 e4
      subst e1 e2 e3 e4
      have c0 := (h.b.cell (j * 5)).trans x0
      have c1 := (h.b.cell (j * 5 + 1)).trans x1
      have c2 := (h.b.cell (j * 5 + 2)).trans x2
      have c3 := (h.b.cell (j * 5 + 3)).trans x3
      have c4 := (h.b.cell (j * 5 + 4)).trans x4
      have hl : j < seedW.length := by rw [seedW_len]; exact hlt
      have HT := Lib.hid (take_map_snoc wv seedW j hl)
      obtain ⟨x, hx⟩ : ∃ x, seedW[j] = x := ⟨_, rfl⟩
      rw [hx] at HT
      have K : Hid (∀ W : World, Calls Tryd.prog 19 #[.agg #[.int .i64 op, .int .i64 a, .int .i64 b, .int .i64 d]] W fun e w' => e = .returned (.tuple #[.int .u32 x.toNat, .int .i64 0]) ∧ Below W.heap.size W w') := by
        intro W
        obtain ⟨e1, e2, e3, e4, e5⟩ := hw.out
        have e6 := dec_enc seedW[j]
        have e7 := e5
        unfold decB at e7
        rw [e1, e2, e3, e4] at e6 e7
        have k := inst_Encode op a b d W e7
        rw [e6, hx] at k
        exact k
      have hjI : (j : Int) < 34 := by omega
      have hj0 : (0 : Int) ≤ j := by omega
      have H := Lib.hid h
      clear h hw hq hx x0 x1 x2 x3 x4
      go_wp2_with fail
      refine (K.out _).mono ?_
      rintro e w2 ⟨rfl, hb2⟩
      have h2 := (H.out.below ((Below.refl _ wr).alloc (Nat.le_refl _) (.cells #[.int .i64 op, .int .i64 a, .int .i64 b, .int .i64 d, .string s] 44))).below hb2
      have ho := h2.o
      have hsz := h2.b.lt
      clear hb2 c0 c1 c2 c3 c4 H
      go_wp2_with (at_builtin; refine wpList_append_new rfl _ _ 28 rfl (w.heap.size + 1) (.int .u32 0) 1 4 Tryd.underlying28 info_u32 rfl (by decide) _ j _ rfl ho 1 rfl rfl (by simp [Value.oneCell']) (by omega) (by omega) hsz ?_; intro v1 w3 hown1 hb3 hk)
      have h3 : Sw w (j + 1) v1 w3 := ⟨h2.b.below hb3 (Nat.lt_succ_self _), by rw [HT.out]; exact hown1, h2.bel.trans (hb3.mono (Nat.le_succ _))⟩
      have H3 := Lib.hid h3
      clear h3 h2 hown1 hb3 hk ho
      go_roundw
      case rel => exact ⟨j + 1, hlt, rfl, H3.out⟩
      case measure => simp [intOf]; omega
    · obtain rfl : j = 34 := by omega
      have ho := h.o
      rw [show seedW.take 34 = seedW from List.take_of_length_le (by rw [seedW_len]; exact Nat.le_refl _)] at ho
      obtain ⟨A, c, rfl, -, -, hS⟩ := Sl.of_own ho
      have hb := h.bel
      clear h ho
      go_wp2_with fail
      go_returns
      exact ⟨⟨A, c, rfl, hS⟩, hb⟩

theorem seed_Image (w : World) :
    Calls Tryd.prog 7 #[] w fun e w' => (∃ s, e = .returned (.string s) ∧ Hid (s.data.toList = putI seedW 0)) ∧ Below w.heap.size w w' := by
  have K0 := Lib.hid seed_words
  have K1 : Hid (∀ (A : Option Addr) (c : Nat) (W : World), Sl W W.heap.size A 34 (seedW.map wv) → Calls Tryd.prog 16 #[.agg #[.slice A 34 c, .int .i64 0]] W fun e w' => (∃ s, e = .returned (.tuple #[.string s, .int .i64 0]) ∧ Hid (s.data.toList = putI seedW 0)) ∧ Below W.heap.size W w') := by
    intro A c W hS
    have k := image_Put A seedW c 0 W (by rw [seedW_len]; exact hS) (by decide)
    rw [seedW_len] at k
    exact k
  go_enter Tryd.func7, Tryd.ntmps7
  go_wp2_with fail
  refine (K0.out _).mono ?_
  rintro e w1 ⟨⟨A, c, rfl, hS⟩, hb1⟩
  go_wp2_with fail
  refine (K1.out A c _ hS).mono ?_
  rintro e w2 ⟨⟨s, rfl, hs⟩, hb2⟩
  go_wp2_with fail
  go_returns
  exact ⟨⟨s, rfl, hs⟩, hb1.trans (hb2.mono hb1.size)⟩
theorem seed_size {s : ByteArray} (h : s.data.toList = putI seedW 0) : s.size = 148 := by
  have e : s.data.toList.length = s.size := rfl
  rw [← e, h]
  decide +kernel
end Go.Proofs.YtepgnnlihnajeaaDoor
