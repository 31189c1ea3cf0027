/- Layer 2: a text of digits is read, walked. -/
/- Layer 2, the document's answer: digits, texts, their reading; walked. -/
/- Layer 2, the document's answer: a text is read, leniently and not; walked. -/
/- Layer 50: the seed loads a text; walked. -/
/- Layer 50: the seed's words, its image; walked. -/
/- Layer 50: the laws' fixed fact; SeedLoads, SeedSmall; walked. -/
/- Layer 50: the seed's text: what it is, plain; walked. -/
import Derived.Deep.DrawnRows
import Derived.Test.YthfdjfgmgoafnaaDoorHxA
import Derived.Test.YthfdjfgmgoafnaaDoorHxL
import Derived.Test.YthfdjfgmgoafnaaDoorSdH
import Derived.Test.YthfdjfgmgoafnaaDoorSdL
namespace Go.Proofs.YthfdjfgmgoafnaaDoor
open Go.RowKit

theorem or_nib_all : ∀ a, a < 16 → ∀ b, b < 16 → bits .or .i64 ((a * 16 : Nat) : Int) ((b : Nat) : Int) = ((a * 16 + b : Nat) : Int) := by decide +kernel
theorem or_nib (a b : Int) (h0 : 0 ≤ a) (h1 : a < 16) (h2 : 0 ≤ b) (h3 : b < 16) : bits .or .i64 (a * 16) b = a * 16 + b := by
  obtain ⟨A, rfl⟩ := Int.eq_ofNat_of_zero_le h0
  obtain ⟨B, rfl⟩ := Int.eq_ofNat_of_zero_le h2
  have := or_nib_all A (by omega) B (by omega)
  simpa using this
theorem nib_bv (a b : Int) (h0 : 0 ≤ a) (h1 : a < 16) (h2 : 0 ≤ b) (h3 : b < 16) : bv (UInt8.ofNat (a.toNat * 16 + b.toNat)) = .int .u8 (a * 16 + b) := by
  unfold bv
  rw [UInt8.toNat_ofNat']
  congr 1
  omega

end Go.Proofs.YthfdjfgmgoafnaaDoor
namespace Go.Proofs.YthfdjfgmgoafnaaDoor
open Go.RowKit
attribute [local go_sem ↓] Go.wp_at_zero Go.wp_at_succ

theorem ref_Digit (c : UInt8) (w : World) :
    Calls Tryd.prog 26 #[.int .u8 c.toNat] w fun e w' => e = .returned (.int .i64 (digV c)) ∧ w = w' := by
  have hc8 := c.toNat_lt
  have hcase : (48 ≤ c.toNat ∧ c.toNat ≤ 57) ∨ (97 ≤ c.toNat ∧ c.toNat ≤ 102) ∨ (65 ≤ c.toNat ∧ c.toNat ≤ 70) ∨ c.toNat < 48 ∨ (57 < c.toNat ∧ c.toNat < 65) ∨ (70 < c.toNat ∧ c.toNat < 97) ∨ 102 < c.toNat := by omega
  rcases hcase with ⟨ha, hb⟩ | ⟨ha, hb⟩ | ⟨ha, hb⟩ | ha | ⟨ha, hb⟩ | ⟨ha, hb⟩ | ha
  all_goals
    go_enter Tryd.func26, Tryd.ntmps26
    go_wp2_with fail
    go_returns
    refine ⟨ret_int ?_, rfl⟩
    unfold digV
    repeat' split
    all_goals omega

end Go.Proofs.YthfdjfgmgoafnaaDoor
namespace Go.Proofs.YthfdjfgmgoafnaaDoor
open Go.RowKit

theorem digV_10 {x : UInt8} (h : x.toNat = 10) : digV x = -1 := by unfold digV; rw [h]; rfl
theorem digV_35 {x : UInt8} (h : x.toNat = 35) : digV x = -1 := by unfold digV; rw [h]; rfl

set_option maxHeartbeats 2000000 in
theorem ref_hexLoad (s : ByteArray) (w : World) (hs : s.size ≤ 1000000000000) :
    Calls Tryd.prog 9 #[.string s] w fun e w' => (∃ t, e = .returned (.string t) ∧ Hid (t.data.toList = loadL s.data.toList)) ∧ Below w.heap.size w w' := by
  go_enter Tryd.func9, Tryd.ntmps9
  go_wp2_with fail
  go_loopw [3, 4, 5, 6] (fun v cv hv i wr => ∃ (k : Nat) (n : Bool) (h : Int) (o : List UInt8), k ≤ s.size ∧ i = .int .i64 k ∧ hv = .int .i64 h ∧ cv = .bool n ∧ Hid (loadS (s.data.toList.take k) = ⟨n, h, o⟩) ∧
    wr.ownsRow w.heap.size 5 1 v o.length (o.map bv) ∧ Below w.heap.size w wr) (fun _ _ _ i _ => s.size - (intOf i).toNat)
  case atStart => exact ⟨0, false, -1, [], Nat.zero_le _, rfl, rfl, rfl, rfl, ⟨rfl, .inl ⟨rfl, rfl⟩⟩, Below.refl _ _⟩
  case round =>
    obtain ⟨k, n, h, o, hk, rfl, rfl, rfl, HS, hown, hbel⟩ := hrel
    have hinv := loadS_inv (s.data.toList.take k)
    rw [HS.out, List.length_take] at hinv
    obtain ⟨hh1, hh2, hlen⟩ := hinv
    dsimp only at hh1 hh2 hlen
    have hlen2 : 2 * o.length ≤ k := by omega
    clear hlen
    have hsz := hbel.size
    by_cases hlt : k < s.size
    · obtain ⟨x, hx⟩ : ∃ x, s[k] = x := ⟨_, rfl⟩
      have HN : Hid (loadS (s.data.toList.take (k + 1)) = lstep ⟨n, h, o⟩ x) := by
        unfold Hid
        rw [loadS_snoc s.data.toList k hlt, HS.out]
        exact congrArg _ hx
      have hltI : (k : Int) < s.size := by omega
      have hk0 : (0 : Int) ≤ k := by omega
      clear HS
      by_cases h10 : x.toNat = 10
      · rw [lstep_nl h10] at HN
        have q10 : ((x.toNat : Int) == 10) = true := by rw [beq_iff_eq]; omega
        have q35 : ((x.toNat : Int) == 35) = false := by rw [beq_eq_false_iff_ne]; omega
        have hneg : digV x < 0 := by rw [digV_10 h10]; decide
        clear h10
        go_wp2_with fail
        refine (ref_Digit x _).mono ?_
        rintro e w1 ⟨rfl, rfl⟩
        go_wp2_with fail
        go_roundw
        case rel => exact ⟨k + 1, _, _, _, hlt, rfl, rfl, rfl, HN, hown, hbel⟩
        case measure => simp [intOf]; omega
      have q10 : ((x.toNat : Int) == 10) = false := by rw [beq_eq_false_iff_ne]; omega
      by_cases h35 : x.toNat = 35
      · have HN2 : Hid (loadS (s.data.toList.take (k + 1)) = ⟨true, h, o⟩) := by
          cases n with
          | true => rw [lstep_note h10] at HN; exact HN
          | false => rw [lstep_hash h35] at HN; exact HN
        have q35 : ((x.toNat : Int) == 35) = true := by rw [beq_iff_eq]; omega
        have hneg : digV x < 0 := by rw [digV_35 h35]; decide
        clear h10 h35 HN
        go_wp2_with fail
        refine (ref_Digit x _).mono ?_
        rintro e w1 ⟨rfl, rfl⟩
        go_wp2_with fail
        go_roundw
        case rel => exact ⟨k + 1, _, _, _, hlt, rfl, rfl, rfl, HN2, hown, hbel⟩
        case measure => simp [intOf]; omega
      have q35 : ((x.toNat : Int) == 35) = false := by rw [beq_eq_false_iff_ne]; omega
      cases n with
      | true =>
        rw [lstep_note h10] at HN
        clear h10 h35
        go_wp2_with fail
        refine (ref_Digit x _).mono ?_
        rintro e w1 ⟨rfl, rfl⟩
        go_wp2_with fail
        go_roundw
        case rel => exact ⟨k + 1, _, _, _, hlt, rfl, rfl, rfl, HN, hown, hbel⟩
        case measure => simp [intOf]; omega
      | false =>
        by_cases hneg : digV x < 0
        · rw [lstep_other h10 h35 hneg] at HN
          clear h10 h35
          go_wp2_with fail
          refine (ref_Digit x _).mono ?_
          rintro e w1 ⟨rfl, rfl⟩
          go_wp2_with fail
          go_roundw
          case rel => exact ⟨k + 1, _, _, _, hlt, rfl, rfl, rfl, HN, hown, hbel⟩
          case measure => simp [intOf]; omega
        by_cases hh : h < 0
        · rw [lstep_high h10 h35 hneg hh] at HN
          clear h10 h35
          go_wp2_with fail
          refine (ref_Digit x _).mono ?_
          rintro e w1 ⟨rfl, rfl⟩
          go_wp2_with fail
          go_roundw
          case rel => exact ⟨k + 1, _, _, _, hlt, rfl, rfl, rfl, HN, hown, hbel⟩
          case measure => simp [intOf]; omega
        · rw [lstep_low h10 h35 hneg hh] at HN
          have hd0 : 0 ≤ digV x := by omega
          have hd16 := digV_lt x
          have hz0 : 0 ≤ h := by omega
          have HB : Hid (bv (UInt8.ofNat (h.toNat * 16 + (digV x).toNat)) = .int .u8 (16 * h + digV x)) := by unfold Hid; rw [nib_bv h (digV x) hz0 hh2 hd0 hd16, Int.mul_comm]
          clear h10 h35
          go_wp2_with fail
          refine (ref_Digit x _).mono ?_
          rintro e w1 ⟨rfl, rfl⟩
          go_wp2_with (at_builtin; refine wpList_append_new rfl _ _ 38 rfl w.heap.size (.int .u8 0) 1 1 Tryd.underlying38 info_u8 rfl (by decide) _ o.length _ rfl hown 1 rfl rfl (by simp [Value.oneCell']) (by omega) (by omega) hsz ?_; intro v1 w2 hown1 hb1 _)
          go_roundw
          case rel =>
            refine ⟨k + 1, _, _, _, hlt, rfl, rfl, rfl, HN, ?_, hbel.trans hb1⟩
            rw [List.map_append, List.map_singleton, HB.out, List.length_append]
            exact hown1
          case measure => simp [intOf]; omega
    · obtain rfl : k = s.size := by omega
      rw [show s.data.toList.take s.size = s.data.toList from List.take_of_length_le (Nat.le_refl _)] at HS
      obtain ⟨t, hconv, hS⟩ := string_row _ 38 9 Tryd.underlying38 Tryd.underlying5 Tryd.underlying9 hown
      go_wp2_with fail
      go_returns
      exact ⟨⟨t, rfl, by unfold Hid loadL; rw [HS.out, hS.out]⟩, hbel⟩

end Go.Proofs.YthfdjfgmgoafnaaDoor
namespace Go.Proofs.YthfdjfgmgoafnaaDoor
open Go.RowKit

/-- The result's box in Loads. -/
structure Lo (w : World) (b : Nat) (T : ByteArray) (n : Nat) (W : World) : Prop where
  ex : Blk W b 85 #[.int .i64 1, .string T, .int .i64 n]
  bel : Below w.heap.size w W
section
variable {w W W' : World} {b n : Nat} {T : ByteArray}
theorem Lo.below (h : Lo w b T n W) (hb : Below W.heap.size W W') : Lo w b T n W' := ⟨h.ex.below hb h.ex.lt, h.bel.trans (hb.mono h.bel.size)⟩
theorem Lo.drew (h : Lo w b T n W) : Lo w b T n W.drew := h.below (Below.refl _ W).drew
theorem Lo.all (h : Lo w b T n W) : W.cell? ⟨b, 0, none⟩ = some (.int .i64 1) ∧ W.cell? ⟨b, 1, none⟩ = some (.string T) ∧ Lo w b T n W := ⟨h.ex.cell 0, h.ex.cell 1, h⟩
end

set_option maxHeartbeats 4000000 in
theorem ref_Loads (img t : ByteArray) (w : World) (hi : img.data.toList = putI seedW 0) (ht : t.size ≤ 20000) :
    Calls Tryd.prog 25 #[.string img, .string t] w fun e w' => e = .returned (.bool true) ∧ Below w.heap.size w w' := by
  have HI := Lib.hid hi
  have K0 : Hid (∀ W : World, Calls Tryd.prog 46 #[.int .i64 t.size] W fun e w' => e = .returned (.int .i64 ((40 * (t.size + 1) : Nat) : Int)) ∧ W = w') := fun W => ref_Steps t.size W ht
  have K1 : Hid (∀ W : World, Calls Tryd.prog 45 #[.string img, .string t, .int .i64 ((40 * (t.size + 1) : Nat) : Int)] W fun e w' => (∃ (T : ByteArray) (n : Nat), e = .returned (.tuple #[.agg #[.int .i64 1, .string T, .int .i64 n], .int .i64 0]) ∧ Hid (T.data.toList = loadL t.data.toList)) ∧ Below W.heap.size W w') := fun W => ref_BytesRun img t W hi ht
  have K2 := Lib.hid (fun W => ref_hexLoad t W (by omega))
  clear hi
  generalize 40 * (t.size + 1) = F at K0 K1
  go_enter Tryd.func25, Tryd.ntmps25
  go_wp2_with fail
  refine (K0.out _).mono ?_
  rintro e w0 ⟨rfl, rfl⟩
  go_wp2_with fail
  refine (K1.out _).mono ?_
  rintro e w1 ⟨⟨T, n, rfl, hT⟩, hb1⟩
  have hz := Blk.new w1 85 #[.int .i64 1, .string T, .int .i64 n]
  have hb := hb1.alloc hb1.size (.cells #[.int .i64 1, .string T, .int .i64 n] 85)
  go_wp2_with fail
  generalize World.alloc _ _ = W2 at hz hb ⊢
  generalize w1.heap.size = b at hz ⊢
  have h2 : Lo w b T n W2 := ⟨hz, hb⟩
  clear hz hb hb1 K0 K1
  go_region_held3 (fun W => W.cell? ⟨b, 0, none⟩ = some (.int .i64 1) ∧ W.cell? ⟨b, 1, none⟩ = some (.string T) ∧ Lo w b T n W) ((refine Lo.all ?_; repeat (first | assumption | (refine Lo.drew ?_))))
    ((first
      | (go_at_call 9; go_split_ands; (with_reducible refine (K2.out _).mono ?_); rintro e w6 ⟨⟨T2, rfl, hT2⟩, hb6⟩; have I6 := Lo.below (w := w) (b := b) (T := T) (n := n) (by assumption) hb6; obtain rfl : T2 = T := ba_inj (hT2.out.trans hT.out.symm))))
  go_split_ands
  go_wp2_with fail
  go_returns
  exact ⟨rfl, I6.bel⟩
end Go.Proofs.YthfdjfgmgoafnaaDoor
namespace Go.Proofs.YthfdjfgmgoafnaaDoor
open Go.RowKit

/-- The code's block stays. -/
structure Sw (w : World) (k : Nat) (v : Value) (W : World) : Prop where
  b : Blk W w.heap.size 51 codeA
  o : W.ownsRow (w.heap.size + 1) 47 1 v k ((seedW.take k).map wv)
  bel : Below w.heap.size w W
theorem Sw.below {w W W' : World} {k : Nat} {v : Value} (h : Sw w k v W) (hb : Below W.heap.size W W') : Sw w k v W' :=
  ⟨h.b.below hb h.b.lt, own_below h.o rfl hb, h.bel.trans (hb.mono h.bel.size)⟩

set_option maxHeartbeats 4000000 in
theorem seed_words (w : World) :
    Calls Tryd.prog 13 #[] w fun e w' => (∃ A c, e = .returned (.slice A 34 c) ∧ Sl w' w'.heap.size A 34 (seedW.map wv)) ∧ Below w.heap.size w w' := by
  have K0 := Lib.hid seed_code
  have hB := Blk.new w 51 codeA
  have hbel := (Below.refl _ w).alloc (Nat.le_refl _) (.cells codeA 51)
  go_enter Tryd.func13, Tryd.ntmps13
  go_wp2_with fail
  refine (K0.out _).mono ?_
  obtain ⟨W0, hW0⟩ : ∃ W0, w.alloc (.cells codeA 51) = W0 := ⟨_, rfl⟩
  rw [hW0] at hB hbel ⊢
  rintro e w0 ⟨rfl, rfl⟩
  clear hW0
  have hsz := hB.lt
  go_wp2_with (at_make; refine wpList_make_row _ rfl _ _ 23 rfl (w.heap.size + 1) 47 (.int .u32 0) 1 4 Tryd.underlying23 info_u32 _ _ _ 34 rfl rfl rfl (by omega) (by omega) (by omega) ?_; intro v0 w1 hown hb1 hg1 hv1)
  have h0 : Sw w 0 v0 w1 := ⟨hB.below hb1 (Nat.lt_succ_self _), hown, hbel.trans (hb1.mono (Nat.le_succ _))⟩
  clear hB hbel hsz hown hb1 hg1 hv1 K0
  go_loopw [2, 13] (fun v i wr => ∃ j : Nat, j ≤ 34 ∧ i = .int .i64 j ∧ Sw w j v wr) (fun _ i _ => 34 - (intOf i).toNat)
  case atStart => exact ⟨0, Nat.zero_le _, rfl, h0⟩
  case round =>
    clear h0
    obtain ⟨j, hj, rfl, h⟩ := hrel
    by_cases hlt : j < 34
    · obtain ⟨op, a, b, d, hq, hw⟩ := seed_word hlt
      obtain ⟨op', a', b', d', s, hq', x0, x1, x2, x3, x4, _⟩ := code_at j hlt
      rw [hq] at hq'
      injection hq' with hq'
      injection hq' with e1 hq'
      injection hq' with e2 hq'
      injection hq' with e3 e4
      subst e1 e2 e3 e4
      have c0 := (h.b.cell (j * 5)).trans x0
      have c1 := (h.b.cell (j * 5 + 1)).trans x1
      have c2 := (h.b.cell (j * 5 + 2)).trans x2
      have c3 := (h.b.cell (j * 5 + 3)).trans x3
      have c4 := (h.b.cell (j * 5 + 4)).trans x4
      have hl : j < seedW.length := by rw [seedW_len]; exact hlt
      have HT := Lib.hid (take_map_snoc wv seedW j hl)
      obtain ⟨x, hx⟩ : ∃ x, seedW[j] = x := ⟨_, rfl⟩
      rw [hx] at HT
      have K : Hid (∀ W : World, Calls Tryd.prog 28 #[.agg #[.int .i64 op, .int .i64 a, .int .i64 b, .int .i64 d]] W fun e w' => e = .returned (.tuple #[.int .u32 x.toNat, .int .i64 0]) ∧ Below W.heap.size W w') := by
        intro W
        obtain ⟨e1, e2, e3, e4, e5⟩ := hw.out
        have e6 := dec_enc seedW[j]
        have e7 := e5
        unfold decB at e7
        rw [e1, e2, e3, e4] at e6 e7
        have k := inst_Encode op a b d W e7
        rw [e6, hx] at k
        exact k
      have hjI : (j : Int) < 34 := by omega
      have hj0 : (0 : Int) ≤ j := by omega
      have H := Lib.hid h
      clear h hw hq hx x0 x1 x2 x3 x4
      go_wp2_with fail
      refine (K.out _).mono ?_
      rintro e w2 ⟨rfl, hb2⟩
      have h2 := (H.out.below ((Below.refl _ wr).alloc (Nat.le_refl _) (.cells #[.int .i64 op, .int .i64 a, .int .i64 b, .int .i64 d, .string s] 51))).below hb2
      have ho := h2.o
      have hsz := h2.b.lt
      clear hb2 c0 c1 c2 c3 c4 H
      go_wp2_with (at_builtin; refine wpList_append_new rfl _ _ 23 rfl (w.heap.size + 1) (.int .u32 0) 1 4 Tryd.underlying23 info_u32 rfl (by decide) _ j _ rfl ho 1 rfl rfl (by simp [Value.oneCell']) (by omega) (by omega) hsz ?_; intro v1 w3 hown1 hb3 hk)
      have h3 : Sw w (j + 1) v1 w3 := ⟨h2.b.below hb3 (Nat.lt_succ_self _), by rw [HT.out]; exact hown1, h2.bel.trans (hb3.mono (Nat.le_succ _))⟩
      have H3 := Lib.hid h3
      clear h3 h2 hown1 hb3 hk ho
      go_roundw
      case rel => exact ⟨j + 1, hlt, rfl, H3.out⟩
      case measure => simp [intOf]; omega
    · obtain rfl : j = 34 := by omega
      have ho := h.o
      rw [show seedW.take 34 = seedW from List.take_of_length_le (by rw [seedW_len]; exact Nat.le_refl _)] at ho
      obtain ⟨A, c, rfl, -, -, hS⟩ := Sl.of_own ho
      have hb := h.bel
      clear h ho
      go_wp2_with fail
      go_returns
      exact ⟨⟨A, c, rfl, hS⟩, hb⟩

theorem seed_Image (w : World) :
    Calls Tryd.prog 10 #[] w fun e w' => (∃ s, e = .returned (.string s) ∧ Hid (s.data.toList = putI seedW 0)) ∧ Below w.heap.size w w' := by
  have K0 := Lib.hid seed_words
  have K1 : Hid (∀ (A : Option Addr) (c : Nat) (W : World), Sl W W.heap.size A 34 (seedW.map wv) → Calls Tryd.prog 27 #[.agg #[.slice A 34 c, .int .i64 0]] W fun e w' => (∃ s, e = .returned (.tuple #[.string s, .int .i64 0]) ∧ Hid (s.data.toList = putI seedW 0)) ∧ Below W.heap.size W w') := by
    intro A c W hS
    have k := image_Put A seedW c 0 W (by rw [seedW_len]; exact hS) (by decide)
    rw [seedW_len] at k
    exact k
  go_enter Tryd.func10, Tryd.ntmps10
  go_wp2_with fail
  refine (K0.out _).mono ?_
  rintro e w1 ⟨⟨A, c, rfl, hS⟩, hb1⟩
  go_wp2_with fail
  refine (K1.out A c _ hS).mono ?_
  rintro e w2 ⟨⟨s, rfl, hs⟩, hb2⟩
  go_wp2_with fail
  go_returns
  exact ⟨⟨s, rfl, hs⟩, hb1.trans (hb2.mono hb1.size)⟩
theorem seed_size {s : ByteArray} (h : s.data.toList = putI seedW 0) : s.size = 148 := by
  have e : s.data.toList.length = s.size := rfl
  rw [← e, h]
  decide +kernel
end Go.Proofs.YthfdjfgmgoafnaaDoor
namespace Go.Proofs.YthfdjfgmgoafnaaDoor
open Go.RowKit

theorem awake_any (w : World) : Calls Tryd.prog 8 #[] w fun e w' => e = .returned (.bool true) ∧ Below w.heap.size w w' := by
  have K0 := Lib.hid seed_Image
  go_enter Tryd.func8, Tryd.ntmps8
  go_wp2_with fail
  refine (K0.out _).mono ?_
  rintro e w1 ⟨⟨s, rfl, hs⟩, hb1⟩
  have hz := seed_size hs.out
  have hd : (s.size : Int) ≤ 160 := by omega
  clear hz
  go_wp2_with fail
  refine (K0.out _).mono ?_
  rintro e w2 ⟨⟨s2, rfl, hs2⟩, hb2⟩
  go_wp2_with fail
  refine (ref_Loads s2 _ _ hs2.out (by decide)).mono ?_
  rintro e w3 ⟨rfl, hb3⟩
  go_wp2_with fail
  go_returns
  exact ⟨rfl, (hb1.trans (hb2.mono hb1.size)).trans (hb3.mono (Nat.le_trans hb1.size hb2.size))⟩

end Go.Proofs.YthfdjfgmgoafnaaDoor
namespace Go.Proofs.YthfdjfgmgoafnaaDoor
open Go.RowKit

/-- The text's lines, as many of the code's as are asked for. -/
def bodyL : Nat → List UInt8
  | 0 => lineL [83, 69, 69, 68] [97, 110, 32, 105, 109, 97, 103, 101, 32, 98, 101, 103, 105, 110, 115] ++ lineL (leBytes [34]) [104, 111, 119, 32, 109, 97, 110, 121, 32, 119, 111, 114, 100, 115, 32, 111, 102, 32, 99, 111, 100, 101, 32, 116, 104, 101, 114, 101, 32, 97, 114, 101] ++ lineL (leBytes [0]) [110, 111, 32, 109, 101, 109, 111, 114, 121]
  | j + 1 => bodyL j ++ lineL (leBytes [seedW.getD j 0]) (noteL.getD j ⟨#[]⟩).data.toList
theorem body_len : ∀ j, j < 35 → (bodyL j).length ≤ 4000 := by decide +kernel
theorem note_len : ∀ j, j < 34 → (noteL.getD j ⟨#[]⟩).size ≤ 100 := by decide +kernel
theorem note_plain : ∀ j, j < 34 → (noteL.getD j ⟨#[]⟩).data.toList.all (fun x => decide (x.toNat ≠ 10)) = true := by decide +kernel
theorem hexB_load : ∀ (l : List UInt8) (o : List UInt8), (hexB l).foldl lstep ⟨false, -1, o⟩ = ⟨false, -1, o ++ l⟩
  | [], o => by simp [hexB]
  | b :: r, o => by
    have hb := b.toNat_lt
    have k1 : lstep ⟨false, -1, o⟩ (smallD (b.toNat / 16)) = ⟨false, (b.toNat / 16 : Nat), o⟩ := by
      have e := smallD_toNat (b.toNat / 16) (by omega)
      have d := digV_small (b.toNat / 16) (by omega)
      have u : smallN (b.toNat / 16) ≠ 10 ∧ smallN (b.toNat / 16) ≠ 35 := by unfold smallN; split <;> omega
      rw [lstep_high (by rw [e]; exact u.1) (by rw [e]; exact u.2) (by rw [d]; omega) (by decide), d]
    have k2 : lstep ⟨false, (b.toNat / 16 : Nat), o⟩ (smallD (b.toNat % 16)) = ⟨false, -1, o ++ [b]⟩ := by
      have e := smallD_toNat (b.toNat % 16) (by omega)
      have d := digV_small (b.toNat % 16) (by omega)
      have u : smallN (b.toNat % 16) ≠ 10 ∧ smallN (b.toNat % 16) ≠ 35 := by unfold smallN; split <;> omega
      have v : UInt8.ofNat ((((b.toNat / 16 : Nat) : Int)).toNat * 16 + (((b.toNat % 16 : Nat) : Int)).toNat) = b := by
        apply UInt8.toNat_inj.1
        rw [UInt8.toNat_ofNat']
        omega
      rw [lstep_low (by rw [e]; exact u.1) (by rw [e]; exact u.2) (by rw [d]; omega) (by omega), d, v]
    have k3 : lstep ⟨false, -1, o ++ [b]⟩ 32 = ⟨false, -1, o ++ [b]⟩ := rfl
    have ih := hexB_load r (o ++ [b])
    unfold hexB at ih ⊢
    rw [List.flatMap_cons, List.foldl_append]
    simp only [List.foldl_cons, List.foldl_nil, k1, k2, k3, ih, List.append_assoc, List.singleton_append]
theorem note_load : ∀ (n : List UInt8) (o : List UInt8), n.all (fun x => decide (x.toNat ≠ 10)) = true → n.foldl lstep ⟨true, -1, o⟩ = ⟨true, -1, o⟩
  | [], _, _ => rfl
  | x :: r, o, h => by
    rw [List.all_cons, Bool.and_eq_true] at h
    have k : lstep ⟨true, -1, o⟩ x = ⟨true, -1, o⟩ := by
      unfold lstep
      rw [if_neg (of_decide_eq_true h.1), if_pos rfl]
    rw [List.foldl_cons, k, note_load r o h.2]
theorem line_load (l n o : List UInt8) (h : n.all (fun x => decide (x.toNat ≠ 10)) = true) : (lineL l n).foldl lstep ⟨false, -1, o⟩ = ⟨false, -1, o ++ l⟩ := by
  unfold lineL
  rw [List.foldl_append, List.foldl_append, List.foldl_append, hexB_load]
  have k : [(35 : UInt8), 32].foldl lstep ⟨false, -1, o ++ l⟩ = ⟨true, -1, o ++ l⟩ := rfl
  rw [k, note_load _ _ h]
  rfl
theorem body_load : ∀ j, j ≤ 34 → loadS (bodyL j) = ⟨false, -1, [83, 69, 69, 68] ++ leBytes [34] ++ leBytes [0] ++ leBytes (seedW.take j)⟩
  | 0, _ => by
    unfold loadS bodyL l0
    rw [List.foldl_append, List.foldl_append, line_load _ _ _ (by decide), line_load _ _ _ (by decide), line_load _ _ _ (by decide)]
    rfl
  | j + 1, h => by
    have hl : j < seedW.length := by rw [seedW_len]; exact h
    have ih := body_load j (by omega)
    unfold loadS at ih ⊢
    rw [show bodyL (j + 1) = bodyL j ++ lineL (leBytes [seedW.getD j 0]) (noteL.getD j ⟨#[]⟩).data.toList from rfl, List.foldl_append, ih, line_load _ _ _ (note_plain j h), List.getD_eq_getElem?_getD, List.getElem?_eq_getElem hl, leBytes_snoc _ _ hl, Option.getD_some, show leBytes [seedW[j]] = le4 seedW[j] from List.append_nil _, ← List.append_assoc]
theorem loads_of {B o : List UInt8} (h : loadS B = ⟨false, -1, o⟩) : loadL B = o := by
  unfold loadL
  rw [h]
theorem put_seed {l : List UInt32} (h : l.length = 34) : [83, 69, 69, 68] ++ leBytes [34] ++ leBytes [0] ++ leBytes (l.take 34) = putI l 0 := by
  have h2 : leBytes [34] ++ leBytes [0] = leBytes [UInt32.ofNat 34, UInt32.ofNat (0 : Int).toNat] := by decide
  unfold putI
  rw [h, ← h2, List.take_of_length_le (by rw [h]; exact Nat.le_refl _)]
  simp only [List.append_assoc]
theorem body_loads : loadL (bodyL 34) = putI seedW 0 := (loads_of (body_load 34 (Nat.le_refl 34))).trans (put_seed seedW_len)

/-- The text's builder in block q; the code's block ahead of it stays, and the words. -/
structure Tx (w : World) (q b off : Nat) (l : List UInt8) (W : World) : Prop where
  c : Blk W w.heap.size 51 codeA
  ws : ∀ i u, (seedW.map wv)[i]? = some u → W.cell? ⟨b, off + i, none⟩ = some u
  bd : Bd q q l W
  bel : Below w.heap.size w W
  lt : w.heap.size < q
  bq : b < q
  qw : q < W.heap.size
section
variable {w W W' : World} {q b off : Nat} {l l' : List UInt8}
theorem Tx.put (h : Tx w q b off l W) (hb : Below q W W') (B' : Bd q q l' W') : Tx w q b off l' W' :=
  ⟨h.c.below hb h.lt, fun i u hu => (hb.cell (p := ⟨b, off + i, none⟩) h.bq).trans (h.ws i u hu), B', h.bel.trans (hb.mono (Nat.le_of_lt h.lt)), h.lt, h.bq, Nat.lt_of_lt_of_le h.qw hb.size⟩
theorem Tx.below (h : Tx w q b off l W) {B : Nat} (hB : B = W.heap.size) (hb : Below B W W') : Tx w q b off l W' :=
  h.put (hb.mono (by rw [hB]; exact Nat.le_of_lt h.qw)) (bd_below h.bd hB hb)
theorem Tx.alloc (h : Tx w q b off l W) (o : Obj) : Tx w q b off l (W.alloc o) := h.below rfl ((Below.refl _ W).alloc (Nat.le_refl _) o)
theorem Tx.drew (h : Tx w q b off l W) : Tx w q b off l W.drew := h.below rfl (Below.refl _ W).drew
end
theorem sl_one (W : World) (E : TypeId) (x : UInt32) : Sl (W.alloc (.cells #[.int .u32 x.toNat] E)) (W.alloc (.cells #[.int .u32 x.toNat] E)).heap.size (some ⟨W.heap.size, 0, none⟩) 1 ([x].map wv) :=
  ⟨rfl, fun _ => ⟨W.heap.size, 0, rfl, by simp, fun i u hu => by
    rw [Nat.zero_add, World.cell?_alloc_mark]
    match i, hu with
    | 0, hu => exact hu⟩⟩
theorem le1_size {s : ByteArray} {x : UInt32} (h : s.data.toList = leBytes [x]) : s.size = 4 := by
  have e : s.data.toList.length = s.size := rfl
  rw [h, leBytes_length] at e; simpa using e.symm
end Go.Proofs.YthfdjfgmgoafnaaDoor
