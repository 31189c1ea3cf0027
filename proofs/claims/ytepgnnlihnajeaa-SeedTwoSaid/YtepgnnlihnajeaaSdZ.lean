/- Layer 50: SeedImages, SeedNotes, SeedTwo; walked. -/
import Derived.Test.YtepgnnlihnajeaaSdX
import Derived.Test.YtepgnnlihnajeaaSdY
import Derived.Test.YtepgnnlihnajeaaHxF
namespace Go.Proofs.Ytepgnnlihnajeaa
open Go.RowKit

theorem put_size {s : ByteArray} {xs : List UInt32} {d : Int} (h : s.data.toList = putI xs d) (hl : xs.length ≤ 40) : s.size ≤ 200 := by
  have e : s.data.toList.length = s.size := rfl
  rw [h] at e
  unfold putI at e
  rw [List.length_append, List.length_append, leBytes_length, leBytes_length] at e
  simp only [List.length_cons, List.length_nil] at e
  omega
theorem dump_size {s t : ByteArray} (h : t.data.toList = dumpL s.data.toList) (hs : s.size ≤ 200) : t.size ≤ 20000 := by
  have e : t.data.toList.length = t.size := rfl
  have e2 : s.data.toList.length = s.size := rfl
  have k := dumpTo_length s.data.toList s.data.toList.length (Nat.le_refl _) (by omega)
  rw [h] at e
  unfold dumpL at e
  omega
theorem chain6 {B : Nat} {w w1 w2 w3 w4 w5 w6 : World} (h1 : Below B w w1) (h2 : Below w1.heap.size w1 w2) (h3 : Below w2.heap.size w2 w3) (h4 : Below w3.heap.size w3 w4) (h5 : Below w4.heap.size w4 w5) (h6 : Below w5.heap.size w5 w6) (hB : B ≤ w1.heap.size) : Below B w w6 :=
  have s2 := h2.size
  have s3 := h3.size
  have s4 := h4.size
  have s5 := h5.size
  ((((h1.trans (h2.mono hB)).trans (h3.mono (by omega))).trans (h4.mono (by omega))).trans (h5.mono (by omega))).trans (h6.mono (by omega))
set_option maxHeartbeats 2000000 in
theorem seedImages_walk (xs : List UInt32) (A : Option Addr) (c : Nat) (d : Int) (w : World) (hx : Sl w w.heap.size A xs.length (xs.map wv)) :
    Calls Try.prog 5 #[.agg #[.slice A xs.length c, .int .i64 d]] w fun e w' => e = .returned (.bool true) ∧ Below w.heap.size w w' := by
  have K0 := Lib.hid seed_Image
  have KA := Lib.hid awake_any
  have hb0 := (Below.refl _ w).alloc (Nat.le_refl _) (.cells #[.slice A xs.length c, .int .i64 d] 28)
  have HB0 := Lib.hid hb0
  have HX := Lib.hid hx
  clear hb0 hx
  by_cases hbig : 40 < xs.length
  · have hI : (40 : Int) < xs.length := by omega
    go_enter Try.func5, Try.ntmps5
    go_wp2_with fail
    refine (KA.out _).mono ?_
    rintro e w1 ⟨rfl, hb1⟩
    go_wp2_with fail
    go_returns
    exact ⟨rfl, HB0.out.trans (hb1.mono HB0.out.size)⟩
  · have hI : ¬ (40 : Int) < xs.length := by omega
    have hle : xs.length ≤ 40 := by omega
    clear hbig
    by_cases hr : rightB xs.length d = true
    · have KP : Hid (∀ W : World, Below w.heap.size w W → Calls Try.prog 12 #[.agg #[.slice A xs.length c, .int .i64 d]] W fun e w' => (∃ s, e = .returned (.tuple #[.string s, .int .i64 0]) ∧ Hid (s.data.toList = putI xs d)) ∧ Below W.heap.size W w') :=
        fun W hb => ref_Put A xs c d W ((HX.out.below hb).more hb.size) hr
      clear hr
      go_enter Try.func5, Try.ntmps5
      go_wp2_with fail
      refine (KP.out _ HB0.out).mono ?_
      rintro e w1 ⟨⟨s, rfl, hs⟩, hb1⟩
      have hsz : s.size ≤ 200 := put_size hs.out hle
      go_wp2_with fail
      refine (ref_Dump s _ (by omega)).mono ?_
      rintro e w2 ⟨⟨t, rfl, ht⟩, hb2⟩
      have htz : t.size ≤ 20000 := dump_size ht.out hsz
      go_wp2_with fail
      refine (KA.out _).mono ?_
      rintro e w3 ⟨rfl, hb3⟩
      go_wp2_with fail
      refine (ref_hexLoad t _ (by omega)).mono ?_
      rintro e w4 ⟨⟨s2, rfl, hs2⟩, hb4⟩
      obtain rfl : s2 = s := ba_inj (by rw [hs2.out, ht.out, load_dump])
      go_wp2_with fail
      refine (K0.out _).mono ?_
      rintro e w5 ⟨⟨m, rfl, hm⟩, hb5⟩
      go_wp2_with fail
      refine (ref_Loads m t _ hm.out htz).mono ?_
      rintro e w6 ⟨rfl, hb6⟩
      go_wp2_with fail
      go_returns
      have hq := HB0.out.trans (hb1.mono HB0.out.size)
      exact ⟨rfl, chain6 hq hb2 hb3 hb4 hb5 hb6 hq.size⟩
    · have KP : Hid (∀ W : World, Calls Try.prog 12 #[.agg #[.slice A xs.length c, .int .i64 d]] W fun e w' => e = .returned (.tuple #[.string ⟨#[]⟩, .int .i64 1]) ∧ Below W.heap.size W w') :=
        fun W => ref_Put_bad A xs.length c d W (by simpa using hr)
      clear hr
      go_enter Try.func5, Try.ntmps5
      go_wp2_with fail
      refine (KP.out _).mono ?_
      rintro e w1 ⟨rfl, hb1⟩
      go_wp2_with fail
      refine (KA.out _).mono ?_
      rintro e w2 ⟨rfl, hb2⟩
      go_wp2_with fail
      go_returns
      have hb := HB0.out.trans (hb1.mono HB0.out.size)
      exact ⟨rfl, hb.trans (hb2.mono hb.size)⟩

theorem digA_of {n : Bool} {x : UInt8} : (x.toNat = 10 → digA n x = 0 ∧ noteA n x = false) ∧ (x.toNat = 35 → digA n x = 0 ∧ noteA n x = true) := by
  unfold digA noteA
  constructor
  · intro h; rw [if_pos h, if_pos h]; exact ⟨rfl, rfl⟩
  · intro h
    have h10 : ¬ x.toNat = 10 := by omega
    rw [if_neg h10, if_neg h10]
    cases n <;> simp [h]
theorem digA_in {x : UInt8} (h1 : x.toNat ≠ 10) : digA true x = 0 ∧ noteA true x = true := by
  unfold digA noteA; rw [if_neg h1, if_neg h1, if_pos rfl, if_pos rfl]; exact ⟨rfl, rfl⟩
theorem digA_out {x : UInt8} (h1 : x.toNat ≠ 10) (h2 : x.toNat ≠ 35) : digA false x = (if digV x < 0 then 0 else 1) ∧ noteA false x = false := by
  constructor <;> simp [digA, noteA, h1, h2]
theorem digV_in {x : UInt8} (h : (48 ≤ x.toNat ∧ x.toNat ≤ 57) ∨ (97 ≤ x.toNat ∧ x.toNat ≤ 102) ∨ (65 ≤ x.toNat ∧ x.toNat ≤ 70)) : ¬ digV x < 0 := by
  unfold digV; repeat' split
  all_goals omega
theorem digV_out {x : UInt8} (h : ¬ ((48 ≤ x.toNat ∧ x.toNat ≤ 57) ∨ (97 ≤ x.toNat ∧ x.toNat ≤ 102) ∨ (65 ≤ x.toNat ∧ x.toNat ≤ 70))) : digV x < 0 := by
  unfold digV; repeat' split
  all_goals omega

set_option maxHeartbeats 4000000 in
theorem law_digits (s : ByteArray) (w : World) (hs : s.size ≤ 100000) :
    Calls Try.prog 16 #[.string s] w fun e w' => e = .returned (.int .i64 (digN s.data.toList)) ∧ w = w' := by
  go_enter Try.func16, Try.ntmps16
  go_wp2_with fail
  go_loop [3, 4, 5] (fun nv bv iv => ∃ (k m : Nat) (b : Bool), k ≤ s.size ∧ iv = .int .i64 k ∧ nv = .int .i64 m ∧ bv = .bool b ∧ m ≤ k ∧ Hid (digN (s.data.toList.take k) = m ∧ noteS false (s.data.toList.take k) = b)) (fun _ _ iv => s.size - (intOf iv).toNat)
  case atStart => exact ⟨0, 0, false, Nat.zero_le _, rfl, rfl, rfl, Nat.le_refl _, rfl, rfl⟩
  case round =>
    obtain ⟨k, m, b, hk, rfl, rfl, rfl, hm, HS⟩ := hrel
    by_cases hlt : k < s.size
    · obtain ⟨x, hx⟩ : ∃ x, s[k] = x := ⟨_, rfl⟩
      have HN : Hid (digN (s.data.toList.take (k + 1)) = m + digA b x ∧ noteS false (s.data.toList.take (k + 1)) = noteA b x) := by
        have h := digN_snoc s.data.toList k hlt
        rw [HS.out.1, HS.out.2, show s.data.toList[k] = x from hx] at h
        exact h
      have hltI : (k : Int) < s.size := by omega
      have hk0 : (0 : Int) ≤ k := by omega
      clear HS
      by_cases h10 : x.toNat = 10
      · have q10 : ((x.toNat : Int) == 10) = true := by rw [beq_iff_eq]; omega
        have q35 : ((x.toNat : Int) == 35) = false := by rw [beq_eq_false_iff_ne]; omega
        rw [(digA_of.1 h10).1, (digA_of.1 h10).2] at HN
        have g1 : decide ((48 : Int) ≤ (x.toNat : Int)) = false := decide_eq_false (by omega)
        have g2 : decide ((x.toNat : Int) ≤ (57 : Int)) = true := decide_eq_true (by omega)
        have g3 : decide ((97 : Int) ≤ (x.toNat : Int)) = false := decide_eq_false (by omega)
        have g4 : decide ((x.toNat : Int) ≤ (102 : Int)) = true := decide_eq_true (by omega)
        have g5 : decide ((65 : Int) ≤ (x.toNat : Int)) = false := decide_eq_false (by omega)
        have g6 : decide ((x.toNat : Int) ≤ (70 : Int)) = true := decide_eq_true (by omega)
        clear h10
        go_wp2_with fail
        go_round
        case rel => exact ⟨k + 1, m, false, hlt, rfl, rfl, rfl, by omega, HN⟩
        case measure => simp [intOf]; omega
      have q10 : ((x.toNat : Int) == 10) = false := by rw [beq_eq_false_iff_ne]; omega
      by_cases h35 : x.toNat = 35
      · have q35 : ((x.toNat : Int) == 35) = true := by rw [beq_iff_eq]; omega
        rw [(digA_of.2 h35).1, (digA_of.2 h35).2] at HN
        have g1 : decide ((48 : Int) ≤ (x.toNat : Int)) = false := decide_eq_false (by omega)
        have g2 : decide ((x.toNat : Int) ≤ (57 : Int)) = true := decide_eq_true (by omega)
        have g3 : decide ((97 : Int) ≤ (x.toNat : Int)) = false := decide_eq_false (by omega)
        have g4 : decide ((x.toNat : Int) ≤ (102 : Int)) = true := decide_eq_true (by omega)
        have g5 : decide ((65 : Int) ≤ (x.toNat : Int)) = false := decide_eq_false (by omega)
        have g6 : decide ((x.toNat : Int) ≤ (70 : Int)) = true := decide_eq_true (by omega)
        clear h35 h10
        go_wp2_with fail
        go_round
        case rel => exact ⟨k + 1, m, true, hlt, rfl, rfl, rfl, by omega, HN⟩
        case measure => simp [intOf]; omega
      have q35 : ((x.toNat : Int) == 35) = false := by rw [beq_eq_false_iff_ne]; omega
      cases b with
      | true =>
        rw [(digA_in h10).1, (digA_in h10).2] at HN
        clear h10 h35
        go_wp2_with fail
        go_round
        case rel => exact ⟨k + 1, m, true, hlt, rfl, rfl, rfl, by omega, HN⟩
        case measure => simp [intOf]; omega
      | false =>
        rw [(digA_out h10 h35).1, (digA_out h10 h35).2] at HN
        have h256 := x.toNat_lt
        have hcase : x.toNat ≤ 47 ∨ (48 ≤ x.toNat ∧ x.toNat ≤ 57) ∨ (58 ≤ x.toNat ∧ x.toNat ≤ 64) ∨ (65 ≤ x.toNat ∧ x.toNat ≤ 70) ∨ (71 ≤ x.toNat ∧ x.toNat ≤ 96) ∨ (97 ≤ x.toNat ∧ x.toNat ≤ 102) ∨ 103 ≤ x.toNat := by omega
        clear h10 h35
        rcases hcase with hc | hc | hc | hc | hc | hc | hc
        · rw [if_pos (digV_out (by omega))] at HN
          have g1 : decide ((48 : Int) ≤ (x.toNat : Int)) = false := decide_eq_false (by omega)
          have g2 : decide ((x.toNat : Int) ≤ (57 : Int)) = true := decide_eq_true (by omega)
          have g3 : decide ((97 : Int) ≤ (x.toNat : Int)) = false := decide_eq_false (by omega)
          have g4 : decide ((x.toNat : Int) ≤ (102 : Int)) = true := decide_eq_true (by omega)
          have g5 : decide ((65 : Int) ≤ (x.toNat : Int)) = false := decide_eq_false (by omega)
          have g6 : decide ((x.toNat : Int) ≤ (70 : Int)) = true := decide_eq_true (by omega)
          clear hc h256
          go_wp2_with fail
          go_round
          case rel => exact ⟨k + 1, m, false, hlt, rfl, rfl, rfl, by omega, HN⟩
          case measure => simp [intOf]; omega
        · rw [if_neg (digV_in (by omega))] at HN
          have g1 : decide ((48 : Int) ≤ (x.toNat : Int)) = true := decide_eq_true (by omega)
          have g2 : decide ((x.toNat : Int) ≤ (57 : Int)) = true := decide_eq_true (by omega)
          have g3 : decide ((97 : Int) ≤ (x.toNat : Int)) = false := decide_eq_false (by omega)
          have g4 : decide ((x.toNat : Int) ≤ (102 : Int)) = true := decide_eq_true (by omega)
          have g5 : decide ((65 : Int) ≤ (x.toNat : Int)) = false := decide_eq_false (by omega)
          have g6 : decide ((x.toNat : Int) ≤ (70 : Int)) = true := decide_eq_true (by omega)
          clear hc h256
          go_wp2_with fail
          go_round
          case rel => exact ⟨k + 1, m + 1, false, hlt, rfl, by go_num, rfl, by omega, HN⟩
          case measure => simp [intOf]; omega
        · rw [if_pos (digV_out (by omega))] at HN
          have g1 : decide ((48 : Int) ≤ (x.toNat : Int)) = true := decide_eq_true (by omega)
          have g2 : decide ((x.toNat : Int) ≤ (57 : Int)) = false := decide_eq_false (by omega)
          have g3 : decide ((97 : Int) ≤ (x.toNat : Int)) = false := decide_eq_false (by omega)
          have g4 : decide ((x.toNat : Int) ≤ (102 : Int)) = true := decide_eq_true (by omega)
          have g5 : decide ((65 : Int) ≤ (x.toNat : Int)) = false := decide_eq_false (by omega)
          have g6 : decide ((x.toNat : Int) ≤ (70 : Int)) = true := decide_eq_true (by omega)
          clear hc h256
          go_wp2_with fail
          go_round
          case rel => exact ⟨k + 1, m, false, hlt, rfl, rfl, rfl, by omega, HN⟩
          case measure => simp [intOf]; omega
        · rw [if_neg (digV_in (by omega))] at HN
          have g1 : decide ((48 : Int) ≤ (x.toNat : Int)) = true := decide_eq_true (by omega)
          have g2 : decide ((x.toNat : Int) ≤ (57 : Int)) = false := decide_eq_false (by omega)
          have g3 : decide ((97 : Int) ≤ (x.toNat : Int)) = false := decide_eq_false (by omega)
          have g4 : decide ((x.toNat : Int) ≤ (102 : Int)) = true := decide_eq_true (by omega)
          have g5 : decide ((65 : Int) ≤ (x.toNat : Int)) = true := decide_eq_true (by omega)
          have g6 : decide ((x.toNat : Int) ≤ (70 : Int)) = true := decide_eq_true (by omega)
          clear hc h256
          go_wp2_with fail
          go_round
          case rel => exact ⟨k + 1, m + 1, false, hlt, rfl, by go_num, rfl, by omega, HN⟩
          case measure => simp [intOf]; omega
        · rw [if_pos (digV_out (by omega))] at HN
          have g1 : decide ((48 : Int) ≤ (x.toNat : Int)) = true := decide_eq_true (by omega)
          have g2 : decide ((x.toNat : Int) ≤ (57 : Int)) = false := decide_eq_false (by omega)
          have g3 : decide ((97 : Int) ≤ (x.toNat : Int)) = false := decide_eq_false (by omega)
          have g4 : decide ((x.toNat : Int) ≤ (102 : Int)) = true := decide_eq_true (by omega)
          have g5 : decide ((65 : Int) ≤ (x.toNat : Int)) = true := decide_eq_true (by omega)
          have g6 : decide ((x.toNat : Int) ≤ (70 : Int)) = false := decide_eq_false (by omega)
          clear hc h256
          go_wp2_with fail
          go_round
          case rel => exact ⟨k + 1, m, false, hlt, rfl, rfl, rfl, by omega, HN⟩
          case measure => simp [intOf]; omega
        · rw [if_neg (digV_in (by omega))] at HN
          have g1 : decide ((48 : Int) ≤ (x.toNat : Int)) = true := decide_eq_true (by omega)
          have g2 : decide ((x.toNat : Int) ≤ (57 : Int)) = false := decide_eq_false (by omega)
          have g3 : decide ((97 : Int) ≤ (x.toNat : Int)) = true := decide_eq_true (by omega)
          have g4 : decide ((x.toNat : Int) ≤ (102 : Int)) = true := decide_eq_true (by omega)
          have g5 : decide ((65 : Int) ≤ (x.toNat : Int)) = true := decide_eq_true (by omega)
          have g6 : decide ((x.toNat : Int) ≤ (70 : Int)) = false := decide_eq_false (by omega)
          clear hc h256
          go_wp2_with fail
          go_round
          case rel => exact ⟨k + 1, m + 1, false, hlt, rfl, by go_num, rfl, by omega, HN⟩
          case measure => simp [intOf]; omega
        · rw [if_pos (digV_out (by omega))] at HN
          have g1 : decide ((48 : Int) ≤ (x.toNat : Int)) = true := decide_eq_true (by omega)
          have g2 : decide ((x.toNat : Int) ≤ (57 : Int)) = false := decide_eq_false (by omega)
          have g3 : decide ((97 : Int) ≤ (x.toNat : Int)) = true := decide_eq_true (by omega)
          have g4 : decide ((x.toNat : Int) ≤ (102 : Int)) = false := decide_eq_false (by omega)
          have g5 : decide ((65 : Int) ≤ (x.toNat : Int)) = true := decide_eq_true (by omega)
          have g6 : decide ((x.toNat : Int) ≤ (70 : Int)) = false := decide_eq_false (by omega)
          clear hc h256
          go_wp2_with fail
          go_round
          case rel => exact ⟨k + 1, m, false, hlt, rfl, rfl, rfl, by omega, HN⟩
          case measure => simp [intOf]; omega
    · obtain rfl : k = s.size := by omega
      rw [show s.data.toList.take s.size = s.data.toList from List.take_of_length_le (Nat.le_refl _)] at HS
      go_wp2_with fail
      go_returns
      exact ⟨ret_int (by rw [HS.out.1]), rfl⟩

/-- The boxes of SeedTwo: what the three runs gave. -/
structure Tw (w : World) (b1 b2 b3 : Nat) (T1 T2 : ByteArray) (W : World) : Prop where
  a : ∃ n : Nat, Blk W b1 38 #[.int .i64 1, .string T1, .int .i64 n]
  b : ∃ n : Nat, Blk W b2 38 #[.int .i64 1, .string T2, .int .i64 n]
  c : ∃ n : Nat, Blk W b3 38 #[.int .i64 1, .string (T1 ++ T2), .int .i64 n]
  bel : Below w.heap.size w W
section
variable {w W W' : World} {b1 b2 b3 : Nat} {T1 T2 : ByteArray}
theorem Tw.below (h : Tw w b1 b2 b3 T1 T2 W) (hb : Below W.heap.size W W') : Tw w b1 b2 b3 T1 T2 W' := by
  obtain ⟨n1, h1⟩ := h.a
  obtain ⟨n2, h2⟩ := h.b
  obtain ⟨n3, h3⟩ := h.c
  exact ⟨⟨n1, h1.below hb h1.lt⟩, ⟨n2, h2.below hb h2.lt⟩, ⟨n3, h3.below hb h3.lt⟩, h.bel.trans (hb.mono h.bel.size)⟩
theorem Tw.drew (h : Tw w b1 b2 b3 T1 T2 W) : Tw w b1 b2 b3 T1 T2 W.drew := h.below (Below.refl _ W).drew
theorem Tw.all (h : Tw w b1 b2 b3 T1 T2 W) : (W.cell? ⟨b1, 1, none⟩ = some (.string T1) ∧ W.cell? ⟨b2, 1, none⟩ = some (.string T2) ∧ W.cell? ⟨b3, 0, none⟩ = some (.int .i64 1) ∧ W.cell? ⟨b3, 1, none⟩ = some (.string (T1 ++ T2))) ∧ Tw w b1 b2 b3 T1 T2 W := by
  obtain ⟨n1, h1⟩ := h.a
  obtain ⟨n2, h2⟩ := h.b
  obtain ⟨n3, h3⟩ := h.c
  exact ⟨⟨h1.cell 1, h2.cell 1, h3.cell 0, h3.cell 1⟩, h⟩
end

theorem tw_of {w V2 w7 : World} {g1 g2 n1 n2 n3 : Nat} {T1 T2 : ByteArray} (h1 : Blk V2 g1 38 #[.int .i64 1, .string T1, .int .i64 n1]) (h2 : Blk V2 g2 38 #[.int .i64 1, .string T2, .int .i64 n2]) (hb : Below w.heap.size w V2) (hb7 : Below V2.heap.size V2 w7) :
    Tw w g1 g2 w7.heap.size T1 T2 (w7.alloc (.cells #[.int .i64 1, .string (T1 ++ T2), .int .i64 n3] 38)) :=
  ⟨⟨n1, (h1.below hb7 h1.lt).alloc _⟩, ⟨n2, (h2.below hb7 h2.lt).alloc _⟩, ⟨n3, Blk.new _ _ _⟩, (hb.trans (hb7.mono hb.size)).alloc (Nat.le_trans hb.size hb7.size) _⟩
theorem noted_size {T s note : ByteArray} {k : Nat} (h : T.data.toList = noted (s.data.toList.take k) note.data.toList) (hk : k ≤ 60) (hn : note.size ≤ 30) : T.size ≤ 2100 := by
  have e : T.data.toList.length = T.size := rfl
  have e2 : note.data.toList.length = note.size := rfl
  rw [h, noted_len, e2, List.length_take] at e
  have h1 : min k s.data.toList.length * (note.size + 5) ≤ 60 * 35 := Nat.mul_le_mul (by omega) (by omega)
  omega
theorem noted_step {T s note t : ByteArray} {k : Nat} (h : T.data.toList = noted (s.data.toList.take k) note.data.toList) (hk : k < s.size) (ht : t.data.toList = hexT (s.extract k (k + 1)).data.toList) :
    t.size = 2 ∧ (T ++ t ++ (⟨#[32, 35]⟩ : ByteArray) ++ note ++ (⟨#[10]⟩ : ByteArray)).data.toList = noted (s.data.toList.take (k + 1)) note.data.toList := by
  have hl : k < s.data.toList.length := hk
  have e : (s.extract k (k + 1)).data.toList = [s.data.toList[k]] := by
    rw [Lib.extract_data, show k + 1 - k = 1 by omega, List.drop_eq_getElem_cons hl]
    rfl
  rw [e] at ht
  constructor
  · have e2 : t.data.toList.length = t.size := rfl
    rw [← e2, ht, hexT_length]; rfl
  · rw [noted_snoc _ _ _ hl, ba_append, ba_append, ba_append, ba_append, h, ht]
    simp only [List.append_assoc]
set_option maxRecDepth 100000 in
set_option maxHeartbeats 4000000 in
theorem seedTwo_walk (s t : ByteArray) (w : World) :
    Calls Try.prog 7 #[.string s, .string t] w fun e w' => e = .returned (.bool true) ∧ Below w.heap.size w w' := by
  have K0 := Lib.hid seed_Image
  have KA := Lib.hid awake_any
  have hcase : 150 < s.size ∨ (s.size ≤ 150 ∧ 150 < t.size) ∨ (s.size ≤ 150 ∧ t.size ≤ 150) := by omega
  rcases hcase with h1 | ⟨h1, h2⟩ | ⟨h1, h2⟩
  · have hI : (150 : Int) < s.size := by omega
    go_enter Try.func7, Try.ntmps7
    go_wp2_with fail
    refine (KA.out _).mono ?_
    rintro e w1 ⟨rfl, hb1⟩
    go_wp2_with fail
    go_returns
    exact ⟨rfl, hb1⟩
  · have hI : ¬ (150 : Int) < s.size := by omega
    have hI2 : (150 : Int) < t.size := by omega
    go_enter Try.func7, Try.ntmps7
    go_wp2_with fail
    refine (KA.out _).mono ?_
    rintro e w1 ⟨rfl, hb1⟩
    go_wp2_with fail
    go_returns
    exact ⟨rfl, hb1⟩
  have hI : ¬ (150 : Int) < s.size := by omega
  have hI2 : ¬ (150 : Int) < t.size := by omega
  have KD := Lib.hid (fun W => law_digits s W (by omega))
  obtain ⟨D, hD⟩ : ∃ D, digN s.data.toList = D := ⟨_, rfl⟩
  rw [hD] at KD
  have HD := Lib.hid hD
  have hDle : D ≤ 150 := by rw [← hD]; exact Nat.le_trans (digN_le _) h1
  clear hD
  by_cases hodd : D % 2 = 1
  · have hm : ((D : Int).tmod 2 == 1) = true := by rw [Int.tmod_eq_emod_of_nonneg (by omega), beq_iff_eq]; omega
    have hm2 : ((D : Int) % 2 == 1) = true := by rw [beq_iff_eq]; omega
    clear hodd
    go_enter Try.func7, Try.ntmps7
    go_wp2_with fail
    refine (KD.out _).mono ?_
    rintro e w0 ⟨rfl, rfl⟩
    go_wp2_with fail
    refine (KA.out _).mono ?_
    rintro e w1 ⟨rfl, hb1⟩
    go_wp2_with fail
    go_returns
    exact ⟨rfl, hb1⟩
  have hm : ((D : Int).tmod 2 == 1) = false := by rw [Int.tmod_eq_emod_of_nonneg (by omega), beq_eq_false_iff_ne]; omega
  have hm2 : ((D : Int) % 2 == 1) = false := by rw [beq_eq_false_iff_ne]; omega
  have Heven := Lib.hid (show D % 2 = 0 by omega)
  obtain ⟨U, hU⟩ : ∃ U, s ++ (⟨#[10]⟩ : ByteArray) ++ t = U := ⟨_, rfl⟩
  have HU : Hid (U.data.toList = s.data.toList ++ [10] ++ t.data.toList) := by unfold Hid; rw [← hU, ba_append, ba_append]
  have HUs : Hid (U.size = s.size + t.size + 1) := by
    have e : U.data.toList.length = U.size := rfl
    have e1 : s.data.toList.length = s.size := rfl
    have e2 : t.data.toList.length = t.size := rfl
    rw [HU.out, List.length_append, List.length_append] at e
    unfold Hid
    simp only [List.length_cons, List.length_nil] at e
    omega
  have k1 := fun (m : ByteArray) (W : World) (hm : m.data.toList = putI seedW 0) => ref_BytesRun m s W hm (by omega)
  have k2 := fun (m : ByteArray) (W : World) (hm : m.data.toList = putI seedW 0) => ref_BytesRun m t W hm (by omega)
  have k3 := fun (m : ByteArray) (W : World) (hm : m.data.toList = putI seedW 0) => ref_BytesRun m U W hm (by rw [HUs.out]; omega)
  have s1 := fun (W : World) => ref_Steps s.size W (by omega)
  have s2 := fun (W : World) => ref_Steps t.size W (by omega)
  have s3 : ∀ W : World, Calls Try.prog 18 #[.int .i64 ((s.size : Int) + t.size + 1)] W fun e w' => e = .returned (.int .i64 ((40 * (s.size + t.size + 1 + 1) : Nat) : Int)) ∧ W = w' := by
    intro W
    have k := ref_Steps (s.size + t.size + 1) W (by omega)
    rw [Int.natCast_add (s.size + t.size) 1, Int.natCast_add s.size t.size] at k
    exact k
  rw [HUs.out] at k3
  generalize 40 * (s.size + 1) = F1 at k1 s1
  generalize 40 * (t.size + 1) = F2 at k2 s2
  generalize 40 * (s.size + t.size + 1 + 1) = F3 at k3 s3
  have K1 := Lib.hid k1
  have K2 := Lib.hid k2
  have K3 := Lib.hid k3
  have S1 := Lib.hid s1
  have S2 := Lib.hid s2
  have S3 := Lib.hid s3
  have q1 : ¬ 9223372036854775807 < s.size + (⟨#[10]⟩ : ByteArray).size := by show ¬ 9223372036854775807 < s.size + 1; omega
  have q2 : ¬ 9223372036854775807 < (s ++ (⟨#[10]⟩ : ByteArray)).size + t.size := by
    have e : (s ++ (⟨#[10]⟩ : ByteArray)).size = s.size + 1 := by rw [ByteArray.size_append]; rfl
    rw [e]; omega
  clear k1 k2 k3 s1 s2 s3 hodd
  go_enter Try.func7, Try.ntmps7
  go_wp2_with fail
  refine (KD.out _).mono ?_
  rintro e w0 ⟨rfl, rfl⟩
  go_wp2_with fail
  refine (K0.out _).mono ?_
  rintro e w1 ⟨⟨m, rfl, hmm⟩, hb1⟩
  go_wp2_with fail
  refine (S1.out _).mono ?_
  rintro e w2 ⟨rfl, rfl⟩
  go_wp2_with fail
  refine (K1.out m _ hmm.out).mono ?_
  rintro e w3 ⟨⟨T1, n1, rfl, hT1⟩, hb3⟩
  have B1 := Blk.new w3 38 #[.int .i64 1, .string T1, .int .i64 n1]
  have b3 := (hb1.trans (hb3.mono hb1.size)).alloc (Nat.le_trans hb1.size hb3.size) (.cells #[.int .i64 1, .string T1, .int .i64 n1] 38)
  go_wp2_with fail
  generalize World.alloc _ _ = V1 at B1 b3 ⊢
  generalize w3.heap.size = g1 at B1 ⊢
  clear hb1 hb3
  refine (S2.out _).mono ?_
  rintro e w4 ⟨rfl, rfl⟩
  go_wp2_with fail
  refine (K2.out m _ hmm.out).mono ?_
  rintro e w5 ⟨⟨T2, n2, rfl, hT2⟩, hb5⟩
  have B2 := Blk.new w5 38 #[.int .i64 1, .string T2, .int .i64 n2]
  have B1' := (B1.below hb5 B1.lt).alloc (.cells #[.int .i64 1, .string T2, .int .i64 n2] 38)
  have b5 := (b3.trans (hb5.mono b3.size)).alloc (Nat.le_trans b3.size hb5.size) (.cells #[.int .i64 1, .string T2, .int .i64 n2] 38)
  clear B1 b3 hb5
  go_wp2_with fail
  generalize World.alloc _ _ = V2 at B2 B1' b5 ⊢
  generalize w5.heap.size = g2 at B2 ⊢
  refine (S3.out _).mono ?_
  rintro e w6 ⟨rfl, rfl⟩
  go_wp2_with fail
  refine (K3.out m _ hmm.out).mono ?_
  rintro e w7 ⟨⟨T3, n3, rfl, hT3⟩, hb7⟩
  obtain rfl : T3 = T1 ++ T2 := ba_inj (by rw [hT3.out, HU.out, ba_append, hT1.out, hT2.out]; exact load_two _ _ (by rw [HD.out]; exact Heven.out))
  have htw := tw_of (w := w) B1' B2 b5 hb7 (n3 := n3)
  have hlen : T1.size = D / 2 := by
    have e : T1.data.toList.length = T1.size := rfl
    rw [← e, hT1.out, load_len, HD.out]
  have hlen2 : T2.size ≤ 150 := by
    have e : T2.data.toList.length = T2.size := rfl
    have e2 : t.data.toList.length = t.size := rfl
    have h := load_length t.data.toList
    rw [← hT2.out] at h
    omega
  have q3 : ¬ 9223372036854775807 < T1.size + T2.size := by omega
  have z1 : ((T1.size : Int) == (D : Int).tdiv 2) = true := by rw [Int.tdiv_eq_ediv_of_nonneg (by omega), beq_iff_eq]; omega
  have z2 : ((T1.size : Int) == (D : Int) / 2) = true := by rw [beq_iff_eq]; omega
  have hw : IntKind.i64.wrap ((D : Int) / 2) = (D : Int) / 2 := IntWalk.i64_in _ (by omega)
  clear B1' B2 b5 hb7 K0 K1 K2 K3 S1 S2 S3 q1 q2 hU hlen hT1 hT2 hT3
  go_wp2_with fail
  generalize World.alloc _ _ = V3 at htw ⊢
  generalize w7.heap.size = g3 at htw ⊢
  go_region_held3 (fun W => (W.cell? ⟨g1, 1, none⟩ = some (.string T1) ∧ W.cell? ⟨g2, 1, none⟩ = some (.string T2) ∧ W.cell? ⟨g3, 0, none⟩ = some (.int .i64 1) ∧ W.cell? ⟨g3, 1, none⟩ = some (.string (T1 ++ T2))) ∧ Tw w g1 g2 g3 T1 T2 W) ((refine Tw.all ?_; repeat (first | assumption | (refine Tw.drew ?_))))
    ((first
      | (go_at_call 8; go_split_ands; (with_reducible refine (KA.out _).mono ?_); rintro e w8 ⟨rfl, hb8⟩; have I8 := Tw.below (w := w) (b1 := g1) (b2 := g2) (b3 := g3) (T1 := T1) (T2 := T2) (by assumption) hb8; clear hb8)
      | (go_at_call 16; go_split_ands; (with_reducible refine (KD.out _).mono ?_); rintro e w9 ⟨rfl, rfl⟩; have I9 := I8)))
  go_split_ands
  go_wp2_with fail
  go_returns
  exact ⟨rfl, I9.bel⟩

set_option maxHeartbeats 4000000 in
theorem seedNotes_walk (s note : ByteArray) (w : World) :
    Calls Try.prog 6 #[.string s, .string note] w fun e w' => e = .returned (.bool true) ∧ Below w.heap.size w w' := by
  have K0 := Lib.hid seed_Image
  have KA := Lib.hid awake_any
  have hcase : 60 < s.size ∨ (s.size ≤ 60 ∧ 30 < note.size) ∨ (s.size ≤ 60 ∧ note.size ≤ 30) := by omega
  rcases hcase with h1 | ⟨h1, h2⟩ | ⟨h1, h2⟩
  · have hI : (60 : Int) < s.size := by omega
    go_enter Try.func6, Try.ntmps6
    go_wp2_with fail
    refine (KA.out _).mono ?_
    rintro e w1 ⟨rfl, hb1⟩
    go_wp2_with fail
    go_returns
    exact ⟨rfl, hb1⟩
  · have hI : ¬ (60 : Int) < s.size := by omega
    have hI2 : (30 : Int) < note.size := by omega
    go_enter Try.func6, Try.ntmps6
    go_wp2_with fail
    refine (KA.out _).mono ?_
    rintro e w1 ⟨rfl, hb1⟩
    go_wp2_with fail
    go_returns
    exact ⟨rfl, hb1⟩
  have hI : ¬ (60 : Int) < s.size := by omega
  have hI2 : ¬ (30 : Int) < note.size := by omega
  go_enter Try.func6, Try.ntmps6
  go_wp2_with fail
  go_loop [5] (fun i => ∃ k : Nat, k ≤ note.size ∧ i = .int .i64 k ∧ Hid (∀ j (hj : j < note.data.toList.length), j < k → note.data.toList[j].toNat ≠ 10)) (fun i => note.size - (intOf i).toNat)
  case atStart => exact ⟨0, Nat.zero_le _, rfl, fun j _ h => absurd h (by omega)⟩
  case round =>
    obtain ⟨k, hk, rfl, HN⟩ := hrel
    by_cases hlt : k < note.size
    · obtain ⟨x, hx⟩ : ∃ x, note[k] = x := ⟨_, rfl⟩
      have HX : Hid (note.data.toList[k]'hlt = x) := hx
      have hltI : (k : Int) < note.size := by omega
      have hk0 : (0 : Int) ≤ k := by omega
      by_cases h10 : x.toNat = 10
      · have q10 : ((x.toNat : Int) == 10) = true := by rw [beq_iff_eq]; omega
        clear h10
        go_wp2_with fail
        refine (KA.out _).mono ?_
        rintro e w1 ⟨rfl, hb1⟩
        go_wp2_with fail
        go_returns
        exact ⟨rfl, hb1⟩
      · have q10 : ((x.toNat : Int) == 10) = false := by rw [beq_eq_false_iff_ne]; omega
        have HN' : Hid (∀ j (hj : j < note.data.toList.length), j < k + 1 → note.data.toList[j].toNat ≠ 10) := by
          intro j hj hjk
          by_cases h : j = k
          · subst h; rw [HX.out]; exact h10
          · exact HN.out j hj (by omega)
        clear h10 HX HN
        go_wp2_with fail
        go_round
        case rel => exact ⟨k + 1, hlt, rfl, HN'⟩
        case measure => simp [intOf]; omega
    · obtain rfl : k = note.size := by omega
      have HNote : Hid (∀ c ∈ note.data.toList, c.toNat ≠ 10) := by
        intro c hc
        obtain ⟨i, hi, rfl⟩ := List.mem_iff_getElem.1 hc
        exact HN.out i hi hi
      clear HN
      go_wp2_with fail
      go_loopw [6, 7] (fun tv iv wr => ∃ (k : Nat) (T : ByteArray), k ≤ s.size ∧ iv = .int .i64 k ∧ tv = .string T ∧ Hid (T.data.toList = noted (s.data.toList.take k) note.data.toList) ∧ Below w.heap.size w wr) (fun _ iv _ => s.size - (intOf iv).toNat)
      case atStart => exact ⟨0, ⟨#[]⟩, Nat.zero_le _, rfl, rfl, rfl, Below.refl _ _⟩
      case round =>
        obtain ⟨k, T, hks, rfl, rfl, HT, hbel⟩ := hrel
        have hTz : T.size ≤ 2100 := noted_size HT.out (by omega) h2
        by_cases hlts : k < s.size
        · have hltI : (k : Int) < s.size := by omega
          have hltI2 : (k : Int) + 1 ≤ s.size := by omega
          have hk0 : (0 : Int) ≤ k := by omega
          have hk1 : (0 : Int) ≤ (k : Int) + 1 := by omega
          have hk2 : (k : Int) ≤ (k : Int) + 1 := by omega
          have hk3 : ((k : Int) + 1).toNat = k + 1 := by omega
          go_wp2_with fail
          refine (ref_hexText _ _ (by rw [ByteArray.size_extract]; omega)).mono ?_
          rintro e w1 ⟨⟨t, rfl, ht⟩, hb1⟩
          obtain ⟨htz, HT2⟩ := noted_step HT.out hlts ht.out
          have q1 : ¬ 9223372036854775807 < T.size + t.size := by omega
          have q2 : ¬ 9223372036854775807 < T.size + t.size + (⟨#[32, 35]⟩ : ByteArray).size := by show ¬ 9223372036854775807 < T.size + t.size + 2; omega
          have q3 : ¬ 9223372036854775807 < T.size + t.size + (⟨#[32, 35]⟩ : ByteArray).size + note.size := by show ¬ 9223372036854775807 < T.size + t.size + 2 + note.size; omega
          have q4 : ¬ 9223372036854775807 < T.size + t.size + (⟨#[32, 35]⟩ : ByteArray).size + note.size + (⟨#[10]⟩ : ByteArray).size := by show ¬ 9223372036854775807 < T.size + t.size + 2 + note.size + 1; omega
          have q2' : ¬ 9223372036854775807 < T.size + t.size + 2 := by omega
          have q3' : ¬ 9223372036854775807 < T.size + t.size + 2 + note.size := by omega
          have q4' : ¬ 9223372036854775807 < T.size + t.size + 2 + note.size + 1 := by omega
          have H2 := Lib.hid HT2
          clear HT HT2 ht
          go_wp2_with fail
          go_roundw
          case rel => exact ⟨k + 1, _, hlts, rfl, rfl, H2.out, hbel.trans (hb1.mono hbel.size)⟩
          case measure => simp [intOf]; omega
        · obtain rfl : k = s.size := by omega
          rw [show s.data.toList.take s.size = s.data.toList from List.take_of_length_le (Nat.le_refl _)] at HT
          go_wp2_with fail
          refine (KA.out _).mono ?_
          rintro e w3 ⟨rfl, hb3⟩
          go_wp2_with fail
          refine (ref_hexLoad T _ (by omega)).mono ?_
          rintro e w4 ⟨⟨s2, rfl, hs2⟩, hb4⟩
          obtain rfl : s2 = s := ba_inj (by rw [hs2.out, HT.out, load_noted _ _ HNote.out])
          go_wp2_with fail
          refine (K0.out _).mono ?_
          rintro e w5 ⟨⟨m, rfl, hm⟩, hb5⟩
          go_wp2_with fail
          refine (ref_Loads m T _ hm.out (by omega)).mono ?_
          rintro e w6 ⟨rfl, hb6⟩
          go_wp2_with fail
          go_returns
          exact ⟨rfl, chain6 hbel hb3 hb4 hb5 hb6 (Below.refl _ _) hbel.size⟩
end Go.Proofs.Ytepgnnlihnajeaa
